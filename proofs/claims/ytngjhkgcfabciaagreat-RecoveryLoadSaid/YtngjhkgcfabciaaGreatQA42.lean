/- Rows.RecoveryLoadSaid: for every case, every place and every further bytes the law returns true and leaves its arguments as they were. No condition. -/
import Derived.Test.YtngjhkgcfabciaaGreatQA12
import Derived.Test.YtngjhkgcfabciaaGreatQA15
import Derived.Test.YtngjhkgcfabciaaGreatQA27
import Derived.Test.YtngjhkgcfabciaaGreatQA30
import Derived.Test.YtngjhkgcfabciaaGreatQA32
import Derived.Test.YtngjhkgcfabciaaGreatQA33
import Derived.Test.YtngjhkgcfabciaaGreatQA34
import Derived.Test.YtngjhkgcfabciaaGreatQA35
import Derived.Test.YtngjhkgcfabciaaGreatQA37
import Derived.Test.YtngjhkgcfabciaaGreatQA40
import Derived.Test.YtngjhkgcfabciaaGreatQA41
namespace Go.Proofs.YtngjhkgcfabciaaGreat
open Go Go.RowKit
set_option maxRecDepth 100000
set_option maxHeartbeats 8000000
set_option linter.unusedSimpArgs false
set_option linter.unusedVariables false
theorem get_or2 {s : ByteArray} {i : Nat} (hi : i ≤ 9) (h9 : ¬ (i = 9 ∧ 1 < byteN s i)) : bits .or .u64 (accV s i) (IntKind.u64.wrap (IntKind.u64.wrap (bits .and .u8 (byteN s i) 127) * 2 ^ (7 * (i : Int)).toNat)) = accV s (i + 1) := by
 rw [and127 _ (byteN_rng s i), wrap_u64 (n := byteN s i % 128) (by omega), show (7 * (i : Int)).toNat = 7 * i by omega]
 exact get_or hi h9
theorem get_or3 {s : ByteArray} {i : Nat} (hi : i ≤ 9) (h9 : ¬ (i = 9 ∧ 1 < byteN s i)) (hb : ¬ 128 ≤ byteN s i) : bits .or .u64 (accV s i) (IntKind.u64.wrap (byteN s i * 2 ^ (7 * (i : Int)).toNat)) = accV s (i + 1) := by
 have h := byteN_rng s i
 have g := get_or hi h9
 rw [show byteN s i % 128 = byteN s i by omega] at g
 rw [show (7 * (i : Int)).toNat = 7 * i by omega]
 exact g
theorem pget_fn (s : ByteArray) : FnSound Tryz.prog 66 [.val false [.d (.v (.string s))]] [] { vals := [(false, [.d (.v (.int .u64 (getP s).1))]), (false, [.d (.v (.int .i64 (getP s).2.1))]), (false, [.d (.v (.int .i64 (getP s).2.2))])] } := by
 have hmn : ∀ i : Nat, (i : Int) < (if (s.size : Int) < 10 then (s.size : Int) else 10) ↔ i < s.size ∧ i < 10 := fun i => by split <;> omega
 have hmx : (if (s.size : Int) < 10 then (s.size : Int) else 10) = if (s.size : Int) < 10 then (s.size : Int) else 10 := rfl
 refine startW (tm := [(0, _)]) Tryz.func66 rfl Tryz.ntmps66 rfl rfl rfl rfl ?_
 repeat' (first
 |(with_reducible refine rgn 7 700 ?_ ?_); exact rfl
 |(with_reducible refine rgn 8 800 ?_ ?_); exact rfl
 |(with_reducible refine rgn 9 900 ?_ ?_); exact rfl
 |(with_reducible refine rgn 10 1000 ?_ ?_); exact rfl
 |(with_reducible refine rgn 11 1100 ?_ ?_); exact rfl
 |(with_reducible refine rgn 12 1200 ?_ ?_); exact rfl
 |(with_reducible refine rgn 6 1300 ?_ ?_); exact rfl
 |(with_reducible refine blk_at (id := 0) ?_); ((with_reducible refine JL.loopW 0 399 (fun (i : Nat) tm => (11, .one false [.d (.v (.int .i64 ((i : Int))))]) :: (5, .one false [.d (.v (.int .u64 ((accV s i))))]) :: tm) (fun (i : Nat) bo => bo) (fun (i : Nat) => i ≤ 10 ∧ i ≤ s.size ∧ getV s (10 - i) i = getP s) (fun (i : Nat) => 11 - i) (0) ?_ (fun i hi => have hb := byteN_rng s i; have ha := accV_rng s i; have hm := hmn i; ?_) ?_); (focus (apply SubW [] rfl ?_ ?_ rfl ?_; (repeat' (first | exact kA | refine kB ?_ | refine kC ?_ ?_ | exact kD | fail)))))
 |((with_reducible refine round_next (i := i) (i + 1) ?_ ?_ ?_); (focus (apply SubW [] rfl ?_ ?_ rfl ?_; (repeat' (first | exact kA | refine kB ?_ | refine kC ?_ ?_ | exact kD | fail)))))
 |refine wA ?_
 |(refine wC ?_ ?_ <;> intro hc)
 |refine wB ?_ ?_
 |(with_reducible refine JL.block ?_)
 |(with_reducible refine F_at ?_); refine eW (vs := [(_, _), (_, _), (_, _)]) Tryz.results66 ?_; (focus (repeat' (first | exact oA | refine oB ?_ | refine oC ?_ ?_ | fail)))
 |exact oM
 |fail)
 all_goals first
  | (rw [get_end (i := i) (by omega) hi.2.2 (by omega)]; done)
  | (rw [get_big (i := i) (by omega) hi.2.2 (by omega) (by omega)]; done)
  | (rw [get_long (i := i) (by omega) hi.2.2 (by omega) (by omega)]; done)
  | (rw [get_ok (i := i) (by omega) hi.2.2 (by omega) (by omega) (by omega) (by omega)]; done)
  | (rw [get_ok (i := i) (by omega) hi.2.2 (by omega) (by omega) (by omega) (by omega)]; exact get_or3 (by omega) (by omega) (by omega))
  | exact get_or2 (by omega) (by omega)
  | (have hn := get_next (i := i) (by omega) hi.2.2 (by omega) (by omega) (by omega); exact ⟨by omega, by omega, hn.1⟩)
  | exact ⟨Nat.zero_le _, Nat.zero_le _, rfl⟩
  | rfl
  | (exfalso; omega)
  | trace_state
theorem pext_fn (c : Int) (s : ByteArray) (hc : 0 ≤ c ∧ c < 4294967296) (hs : s.size ≤ 10000000) : FnSound Tryz.prog 97 [.val false [.d (.v (.int .u32 c))], .val false [.d (.v (.string s))]] [] { vals := [(false, [.d (.v (.int .u32 (extP c s)))])] } := by
 have hcr := fun k => crcA_rng s (bits32 .xor c 4294967295) k
 have hit := fun k j => itC_rng (bits32 .xor (crcA s (bits .xor .u32 c 4294967295) k) (byteN s k)) j
 refine startW (tm := [(0, _), (1, _)]) Tryz.func97 rfl Tryz.ntmps97 rfl rfl rfl rfl ?_
 repeat' (first
 |(with_reducible refine blk_at (id := 0) ?_); ((with_reducible refine JL.loopW 0 399 (fun (k : Nat) tm => (11, .one false [.d (.v (.int .i64 ((k : Int))))]) :: (0, .one false [.d (.v (.int .u32 ((crcA s (bits .xor .u32 c 4294967295) k))))]) :: tm) (fun (k : Nat) bo => bo) (fun (k : Nat) => k ≤ s.size) (fun (k : Nat) => s.size - k) (0) ?_ (fun k hk => have hb := byteN_rng s k; ?_) ?_); (focus (apply SubW [] rfl ?_ ?_ rfl ?_; (repeat' (first | exact kA | refine kB ?_ | refine kC ?_ ?_ | exact kD | fail)))))
 |((with_reducible refine round_next (i := k) (k + 1) ?_ ?_ ?_); (focus (apply SubW [] rfl ?_ ?_ rfl ?_; (repeat' (first | exact kA | refine kB ?_ | refine kC ?_ ?_ | exact kD | fail)))))
 |(with_reducible refine blk_at (id := 2) ?_); ((with_reducible refine JL.loopW 2 799 (fun (j : Nat) tm => (20, .one false [.d (.v (.int .i64 ((j : Int))))]) :: (0, .one false [.d (.v (.int .u32 ((itC j (bits .xor .u32 (crcA s (bits .xor .u32 c 4294967295) k) (byteN s k))))))]) :: tm) (fun (j : Nat) bo => bo) (fun (j : Nat) => j ≤ 8) (fun (j : Nat) => 8 - j) (0) ?_ (fun j hj => have hi := hit k j; ?_) ?_); (focus (apply SubW [] rfl ?_ ?_ rfl ?_; (repeat' (first | exact kA | refine kB ?_ | refine kC ?_ ?_ | exact kD | fail)))))
 |((with_reducible refine round_next (i := j) (j + 1) ?_ ?_ ?_); (focus (apply SubW [] rfl ?_ ?_ rfl ?_; (repeat' (first | exact kA | refine kB ?_ | refine kC ?_ ?_ | exact kD | fail)))))
 |refine wA ?_
 |(refine wC ?_ ?_ <;> intro hc)
 |refine wB ?_ ?_
 |(with_reducible refine JL.block ?_)
 |(with_reducible refine F_at ?_); refine eW (vs := [(_, _)]) Tryz.results97 ?_; (focus (repeat' (first | exact oA | refine oB ?_ | refine oC ?_ ?_ | fail)))
 |exact oM
 |fail)
 all_goals first
  | with_reducible exact crc_odd' (by omega) hc
  | with_reducible exact crc_even' (by omega) hc
  | (rcases Nat.lt_or_eq_of_le hj with e | e
     ·exfalso; omega
     ·subst e; with_reducible exact crcA_next _ _ _)
  | (rcases Nat.lt_or_eq_of_le hk with e | e
     ·exfalso; omega
     ·subst e; exact (bits_comm _ _ _).trans (extP_eq _ _))
  | exact bits_comm _ _ _
  | rfl
  | (exfalso; omega)
  | trace_state
theorem pcrc_fn (s : ByteArray) (hs : s.size ≤ 10000000) : FnSound Tryz.prog 67 [.val false [.d (.v (.string s))]] [] { vals := [(false, [.d (.v (.int .u32 (extP 0 s)))])] } := by
 have h := pext_fn 0 s (by decide) hs
 refine startW (tm := [(0, _)]) Tryz.func67 rfl Tryz.ntmps67 rfl rfl rfl rfl ?_
 repeat' (first
 |(with_reducible refine K_ca 97 ?_); refine zC (h) ?_
 |refine wA ?_
 |(refine wC ?_ ?_ <;> intro hc)
 |refine wB ?_ ?_
 |(with_reducible refine JL.block ?_)
 |(with_reducible refine F_at ?_); refine eW (vs := [(_, _)]) Tryz.results67 ?_; (focus (repeat' (first | exact oA | refine oB ?_ | refine oC ?_ ?_ | fail)))
 |exact oM
 |fail)
 all_goals first | rfl | trace_state
theorem punframe_fn (s : ByteArray) : FnSound Tryz.prog 33 [.val false [.d (.v (.string s))]] [] { vals := [(false, [.d (.v (.string (unframeP s).1))]), (false, [.d (.v (.int .i64 (unframeP s).2.1))]), (false, [.d (.v (.int .i64 (unframeP s).2.2))])] } := by
 have hg := getP_rng (s := s)
 have hx : (s.extract ((getP s).2.1 + 4).toNat ((getP s).2.1 + 4 + (getP s).1).toNat).size ≤ ((getP s).2.1 + 4 + (getP s).1).toNat - ((getP s).2.1 + 4).toNat := by rw [ByteArray.size_extract]; omega
 have hb0 := byteN_rng s (getP s).2.1.toNat
 have hb1 := byteN_rng s ((getP s).2.1 + 1).toNat
 have hb2 := byteN_rng s ((getP s).2.1 + 2).toNat
 have hb3 := byteN_rng s ((getP s).2.1 + 3).toNat
 refine startW (tm := [(0, _)]) Tryz.func33 rfl Tryz.ntmps33 rfl rfl rfl rfl ?_
 repeat' (first
 |(with_reducible refine K_ca 66 ?_); refine zC (pget_fn s) ?_
 |(with_reducible refine K_ca 67 ?_); refine zC (pcrc_fn (s.extract ((getP s).2.1 + 4).toNat ((getP s).2.1 + 4 + (getP s).1).toNat) (by omega)) ?_
 |refine wA ?_
 |(refine wC ?_ ?_ <;> intro hc)
 |refine wB ?_ ?_
 |(with_reducible refine JL.block ?_)
 |(with_reducible refine F_at ?_); refine eW (vs := [(_, _), (_, _), (_, _)]) Tryz.results33 ?_; (focus (repeat' (first | exact oA | refine oB ?_ | refine oC ?_ ?_ | fail)))
 |exact oM
 |fail)
 all_goals first
  | (rw [uf_range (by omega)]; done)
  | (rw [uf_err (by omega) (by omega)]; done)
  | (rw [uf_short (by omega) (by omega) (by omega)]; done)
  | (rw [uf_torn (by omega) (by omega) (by omega) (fun e => hc ((or_rdI s (by omega)).trans e))]; done)
  | (rw [uf_ok (by omega) (by omega) (by omega) ((or_rdI s (by omega)).symm.trans hc)]; done)
  | rfl
  | (exfalso; omega)
  | trace_state
theorem pparse_fn (s : ByteArray) : FnSound Tryz.prog 34 [.val false [.d (.v (.string s))]] [] { vals := [(true, [.d (.v (.int .i64 (parseP s).1.kind)), .d (.v (.int .i64 (parseP s).1.token)), .d (.v (.int .i64 (parseP s).1.idx)), .d (.v (.string (parseP s).1.data))]), (false, [.d (.v (.int .i64 (parseP s).2))])] } := by
 have hA := Tryz.underlying138
 have hZ : sizeT Tryz.prog 2 = some 1 := by kernel_rfl
 obtain ⟨r, g, hg, h0, hn, hno, hyes⟩ := parse_gen s
 have hget : ∀ j, FnSound Tryz.prog 66 [.val false [.d (.v (.string (r j)))]] [] { vals := [(false, [.d (.v (.int .u64 (g j).1))]), (false, [.d (.v (.int .i64 (g j).2.1))]), (false, [.d (.v (.int .i64 (g j).2.2))])] } := fun j => by rw [hg j]; exact pget_fn (r j)
 have hrg : ∀ j, (g j).2.2 = 0 → 0 < (g j).2.1 ∧ (g j).2.1 ≤ (r j).size ∧ 0 ≤ (g j).1 ∧ (g j).1 < 18446744073709551616 ∧ (g j).2.1 ≤ 10 := fun j => by rw [hg j]; exact getP_rng
 clear hg
 generalize parseP s = q at hno hyes ⊢
 subst h0
 refine startW (tm := [(0, _)]) Tryz.func34 rfl Tryz.ntmps34 rfl rfl rfl rfl ?_
 repeat' (first
 |(with_reducible refine K_ca 66 ?_); (first
 |refine zC (hget 0) ?_
 |refine zC (hget 1) ?_
 |refine zC (hget 2) ?_)
 |(with_reducible refine W_at ?_); (first
 |(rcases hi3 with rfl | rfl | rfl | rfl)
 |(refine W.idxA rfl hA hZ rfl rfl ⟨by decide, by decide⟩ ?_))
 |(with_reducible refine blk_at (id := 0) ?_); ((with_reducible refine JL.loopW 0 399 (fun (i : Nat) tm => (9, .one false [.d (.v (.int .i64 ((i : Int))))]) :: (0, .one false [.d (.v (.string ((r i))))]) :: tm) (fun (i : Nat) bo => ((0, 200), some (.st 138 [.d (.v (.int .i64 ((numQ g i 0)))), .d (.v (.int .i64 ((numQ g i 1)))), .d (.v (.int .i64 ((numQ g i 2))))])) :: bo) (fun (i : Nat) => i ≤ 3 ∧ ∀ j, j < i → okG g j) (fun (i : Nat) => 3 - i) (0) ?_ (fun i hi => have g0 := hrg 0; have g1 := hrg 1; have g2 := hrg 2; have hi3 : i = 0 ∨ i = 1 ∨ i = 2 ∨ i = 3 := (by omega); ?_) ?_); (focus (apply SubW [] rfl ?_ ?_ rfl ?_; (repeat' (first | exact kA | refine kB ?_ | refine kC ?_ ?_ | exact kD | fail)))))
 |((with_reducible refine round_next (i := i) (i + 1) ?_ ?_ ?_); (focus (apply SubW [] rfl ?_ ?_ rfl ?_; (repeat' (first | exact kA | refine kB ?_ | refine kC ?_ ?_ | exact kD | fail)))))
 |((with_reducible refine round_next (i := 0) (1) ?_ ?_ ?_); (focus (apply SubW [] rfl ?_ ?_ rfl ?_; (repeat' (first | exact kA | refine kB ?_ | refine kC ?_ ?_ | exact kD | fail)))))
 |((with_reducible refine round_next (i := 1) (2) ?_ ?_ ?_); (focus (apply SubW [] rfl ?_ ?_ rfl ?_; (repeat' (first | exact kA | refine kB ?_ | refine kC ?_ ?_ | exact kD | fail)))))
 |((with_reducible refine round_next (i := 2) (3) ?_ ?_ ?_); (focus (apply SubW [] rfl ?_ ?_ rfl ?_; (repeat' (first | exact kA | refine kB ?_ | refine kC ?_ ?_ | exact kD | fail)))))
 |refine wA ?_
 |(refine wC ?_ ?_ <;> intro hc)
 |refine wB ?_ ?_
 |(with_reducible refine JL.block ?_)
 |(with_reducible refine F_at ?_); refine eW (vs := [(_, _), (_, _)]) Tryz.results34 ?_; (focus (repeat' (first | exact oA | refine oB ?_ | refine oC ?_ ?_ | fail)))
 |exact oM
 |fail)
 all_goals first
  | exact hn _
  | exact ⟨Nat.zero_le _, fun j hj => absurd hj (Nat.not_lt_zero j)⟩
  | (rw [hno 0 (by omega) (fun e => by unfold okG at e; omega)] <;> rfl)
  | (rw [hno 1 (by omega) (fun e => by unfold okG at e; omega)] <;> rfl)
  | (rw [hno 2 (by omega) (fun e => by unfold okG at e; omega)] <;> rfl)
  | (rw [hyes hi.2] <;> rfl)
  | (rw [hyes hi.2]; exact numQ_y (by decide))
  | exact ⟨by omega, okG_step hi.2 (by omega) (by omega)⟩
  | trace_state
theorem pread_fn (s : ByteArray) (hs : s.size ≤ 1000000) : FnSound Tryz.prog 16 [.val false [.d (.v (.string s))]] [] { vals := [(false, [.d (.sl 4 (dEnts (readP s).1))]), (false, [.d (.v (.int .i64 (readP s).2.1))]), (false, [.d (.v (.int .i64 (readP s).2.2))])] } := by
 refine startW (tm := [(0, _)]) Tryz.func16 rfl Tryz.ntmps16 rfl rfl rfl rfl ?_
 repeat' (first
 |(with_reducible refine K_ca 33 ?_); refine zC (punframe_fn (s.extract y.2.1 s.size)) ?_
 |(with_reducible refine K_ca 34 ?_); refine zC (pparse_fn (unframeP (s.extract y.2.1 s.size)).1) ?_
 |(with_reducible refine blk_at (id := 0) ?_); (try (refine JL.zeroW 5 _ 62 4 rfl rfl ?_)); (refine JL.rekW 5 (1080, 351) rfl rfl rfl rfl ?_); ((with_reducible refine JL.loopW 0 399 (fun (y : Nat × Nat × List EntD) tm => (6, .one false [.d (.v (.int .i64 ((y.2.1 : Int))))]) :: (5, .one false [.own (1080, 351)]) :: tm) (fun (y : Nat × Nat × List EntD) bo => ((1080, 351), some (.sl 62 4 ((dEnts y.2.2)))) :: bo) (fun (y : Nat × Nat × List EntD) => ReadK s y) (fun (y : Nat × Nat × List EntD) => s.size - y.1) ((0, 0, [])) ?_ (fun y hy => have h1 := hy.k; have h2 := hy.a; have h3 := hy.n; have h4 := unframe_rng (s := s.extract y.2.1 s.size); have h5 := ext_size (s := s) (a := y.2.1) (b := s.size) ⟨hy.a, Nat.le_refl _⟩; ?_) ?_); (focus (apply SubW [((1080, 351), _)] rfl ?_ ?_ rfl ?_; (repeat' (first | exact kA | refine kB ?_ | refine kC ?_ ?_ | exact kD | fail)))))
 |((with_reducible refine round_next (i := y) (readN s y) ?_ ?_ ?_); (focus (apply SubW [((1080, 351), _)] rfl ?_ ?_ rfl ?_; (repeat' (first | exact kA | refine kB ?_ | refine kC ?_ ?_ | exact kD | fail)))))
 |refine wA ?_
 |(refine wC ?_ ?_ <;> intro hc)
 |refine wB ?_ ?_
 |(with_reducible refine JL.block ?_)
 |(with_reducible refine F_at ?_); refine eW (vs := [(_, _), (_, _), (_, _)]) Tryz.results16 ?_; (focus (repeat' (first | exact oA | refine oB ?_ | refine oC ?_ ?_ | fail)))
 |exact oM
 |fail)
 all_goals first
  | exact readK_0 s
  | exact readK_next hy (by omega) (by omega) (by omega)
  | (rw [readK_end hy (by omega)]; done)
  | (rw [readK_bad hy (by omega) (by omega)]; done)
  | (rw [readK_torn hy (by omega) (by omega) (by omega)]; done)
  | rfl
  | (dsimp only [readN]; omega)
  | (exfalso; omega)
  | trace_state
theorem pload_fn (p : Prob) (rs : List Int) (l : List StepD) (s : ByteArray) (hs : setErr p rs = 0) (hc0 : checkP p l = true) (hl : l.length ≤ 1000000) (hz : s.size ≤ 6000) : FnSound Tryz.prog 7 [.val true (probC p), .val false [.d (.sl 1 (dInts rs))], .val false [.d (.sl 3 (dSteps l))], .val false [.d (.v (.string s))]] [] { vals := [(true, ctlC (loadP p rs l s).1), (false, [.d (.v (.int .i64 (loadP p rs l s).2.1))]), (false, [.d (.v (.int .i64 (loadP p rs l s).2.2))])] } := by
 have hf := readP_few s
 have hr := preplay_fn p rs l (readP s).1 hs hc0 hl (by omega)
 by_cases h0 : (replayP p rs l (readP s).1).2 = 0
 ·have e : loadP p rs l s = ((replayP p rs l (readP s).1).1, (readP s).2.1, 0) := by unfold loadP; rw [if_neg (by simpa using h0)]
  rw [e]
  refine startW (tm := [(0, _), (1, _), (2, _), (3, _)]) Tryz.func7 rfl Tryz.ntmps7 rfl rfl rfl rfl ?_
  repeat' (first
 |(with_reducible refine K_ca 16 ?_); refine zC (pread_fn s (by omega)) ?_
 |(with_reducible refine K_ca 13 ?_); refine zC (hr) ?_
 |refine wA ?_
 |(refine wC ?_ ?_ <;> intro hc)
 |refine wB ?_ ?_
 |(with_reducible refine JL.block ?_)
 |(with_reducible refine F_at ?_); refine eW (vs := [(_, _), (_, _), (_, _)]) Tryz.results7 ?_; (focus (repeat' (first | exact oA | refine oB ?_ | refine oC ?_ ?_ | fail)))
 |exact oM
 |fail)
  all_goals first | rfl | (exfalso; omega) | trace_state
 ·have e : loadP p rs l s = (nilCtl, 0, (replayP p rs l (readP s).1).2) := by unfold loadP; rw [if_pos h0]
  rw [e]
  refine startW (tm := [(0, _), (1, _), (2, _), (3, _)]) Tryz.func7 rfl Tryz.ntmps7 rfl rfl rfl rfl ?_
  repeat' (first
 |(with_reducible refine K_ca 16 ?_); refine zC (pread_fn s (by omega)) ?_
 |(with_reducible refine K_ca 13 ?_); refine zC (hr) ?_
 |refine wA ?_
 |(refine wC ?_ ?_ <;> intro hc)
 |refine wB ?_ ?_
 |(with_reducible refine JL.block ?_)
 |(with_reducible refine F_at ?_); refine eW (vs := [(_, _), (_, _), (_, _)]) Tryz.results7 ?_; (focus (repeat' (first | exact oA | refine oB ?_ | refine oC ?_ ?_ | fail)))
 |exact oM
 |fail)
  all_goals first | rfl | (exfalso; omega) | trace_state
end Go.Proofs.YtngjhkgcfabciaaGreat

namespace Go.Proofs.YtngjhkgcfabciaaGreat
open Go Go.RowKit
set_option maxRecDepth 100000
set_option maxHeartbeats 8000000
set_option linter.unusedSimpArgs false
set_option linter.unusedVariables false
theorem sv_eqInt {P : Program} {t : TypeId} {k k' : IntKind} {a b : Int} (h : P.underlying t = some (.int k')) (d : Nat) : semVal P (Op.equalIn (d + 1) t (.int k a) (.int k b)) = some (a == b) := by
 simp only [Op.equalIn]
 rw [semVal_bind, semVal_underlying h]
 show semVal P (if k = k then pure (a == b) else _) = _
 rw [if_pos rfl]; rfl
theorem sv_step (a b c : Int) (d : Nat) : semVal Tryz.prog (Op.equalIn (d + 2) 68 (.agg #[.int .i64 a, .int .i64 b, .int .i64 c]) (.agg #[.int .i64 a, .int .i64 b, .int .i64 c])) = some true := by
 have h3 : Tryz.prog.underlying 3 = some (.int .i64) := by kernel_rfl
 rw [Op.equalIn]
 rw [semVal_bind, semVal_underlying Tryz.underlying68]
 simp only [Option.bind_some]
 have hp : semVal Tryz.prog program = some Tryz.prog := rfl
 have hst : Tryz.prog.stoodInHeld 68 = false := by kernel_rfl
 have p0 : ∀ x y z : Value, semVal Tryz.prog (part 3 #[x, y, z] 0) = some x := fun x y z => by rfl
 have p1 : ∀ x y z : Value, semVal Tryz.prog (part 3 #[x, y, z] 1) = some y := fun x y z => by rfl
 have p2 : ∀ x y z : Value, semVal Tryz.prog (part 3 #[x, y, z] 2) = some z := fun x y z => by rfl
 simp only [semVal_bind, hp, Option.bind_some, hst, Bool.false_eq_true, if_false, List.forIn_toArray, List.forIn_cons, List.forIn_nil]
 simp [semVal_bind, p0, p1, p2, sv_eqInt h3, semVal_pure]
theorem sv_neStep (a b c : Int) : semVal Tryz.prog (binOp .neq 68 (.agg #[.int .i64 a, .int .i64 b, .int .i64 c]) (.agg #[.int .i64 a, .int .i64 b, .int .i64 c])) = some (.bool false) := by
 have : semVal Tryz.prog (Op.equal 68 (.agg #[.int .i64 a, .int .i64 b, .int .i64 c]) (.agg #[.int .i64 a, .int .i64 b, .int .i64 c])) = some true := sv_step a b c 9998
 simp only [binOp]
 rw [semVal_bind, this]
 rfl
theorem sv_guardStep (x y : Operand) (u v : Array Value) : semVal Tryz.prog (eqGuard .neq 68 x y (.agg u) (.agg v)) = some () := by
 have hp : semVal Tryz.prog program = some Tryz.prog := rfl
 have hg : Tryz.prog.eqGuardType Tryz.prog.depth 68 = false := by kernel_rfl
 unfold eqGuard
 simp [semVal_bind, hp, hg]
 rfl
section
variable {lend : FuncId → Bool} {N : Nat} {ops : Array Oper} {dr : Bool} {cs : List Code} {R : AX → St → Prop} {i : Nat} {os : List Oper} {tm : List (Nat × AV)} {bo : BO} {nx : Nat} {ns : List Note} {d : Nat} {pos : String} {ty : TypeId} {af : Array Edge}
theorem W.neStep {ty' : TypeId} {x y : Operand} {a b c : Int} (hd : Nat.blt d N = true) (hx : ev (lk tm) x = some (.one true [.d (.v (.int .i64 a)), .d (.v (.int .i64 b)), .d (.v (.int .i64 c))])) (hy : ev (lk tm) y = some (.one true [.d (.v (.int .i64 a)), .d (.v (.int .i64 b)), .d (.v (.int .i64 c))])) (h : W Tryz.prog lend N ops dr cs R (i + 1) os ((d, .one false [.d (.v (.bool false))]) :: tm) bo nx (ns ++ [⟨opKeys (lk tm) (lko bo) ⟨some d, .binOp .neq 68 x y ty', ty, pos, af, none⟩, []⟩])) : W Tryz.prog lend N ops dr cs R i (⟨some d, .binOp .neq 68 x y ty', ty, pos, af, none⟩ :: os) tm bo nx ns :=
 W.plain hd (fun lt hlt => by
  have hx' := (hlt x (by simp [Op.operands])).trans hx
  have hy' := (hlt y (by simp [Op.operands])).trans hy
  have hc : ∀ z, conV (.one true [.d (.v (.int .i64 a)), .d (.v (.int .i64 b)), .d (.v (.int .i64 c))]) = z → z = some (.agg #[.int .i64 a, .int .i64 b, .int .i64 c]) := fun z e => e.symm.trans rfl
  have hcv : conV (.one true [.d (.v (.int .i64 a)), .d (.v (.int .i64 b)), .d (.v (.int .i64 c))]) = some (.agg #[.int .i64 a, .int .i64 b, .int .i64 c]) := hc _ rfl
  unfold effPlain
  simp only [plainOp, Op.operands, List.all_cons, List.all_nil, hx', hy', Option.bind_some, hcv, Option.isSome_some, Bool.and_true, Bool.true_and, if_true]
  unfold execOp
  simp only [semVal_bind, hx', hy', Option.bind_some, hcv, Option.getD_some, sv_guardStep, sv_neStep, semVal_pure, Option.map_some, semVal_map]
  rfl) (fun _ _ _ _ _ _ => rfl) h
end
theorem same37_fn (l : List StepD) (hl : l.length ≤ 1000000) : FnSound Tryz.prog 19 [.val false [.d (.sl 3 (dSteps l))], .val false [.d (.sl 3 (dSteps l))]] [] { vals := [(false, [.d (.v (.bool true))])] } := by
 refine startW (tm := [(0, _), (1, _)]) Tryz.func19 rfl Tryz.ntmps19 rfl rfl rfl rfl ?_
 repeat' (first
 |(with_reducible refine rgn 6 600 ?_ ?_); exact rfl
 |(with_reducible refine rgn 7 700 ?_ ?_); exact rfl
 |(with_reducible refine rgn 5 800 ?_ ?_); exact rfl
 |(with_reducible refine W_at ?_); (first
 |(refine W.neStep rfl rfl rfl ?_))
 |(with_reducible refine blk_at (id := 0) ?_); ((with_reducible refine JL.loopW 0 499 (fun (k : Nat) tm => (5, .one false [.d (.v (.int .i64 ((k : Int))))]) :: tm) (fun (k : Nat) bo => bo) (fun (k : Nat) => k ≤ l.length) (fun (k : Nat) => l.length - k) (0) ?_ (fun k hk => ?_) ?_); (focus (apply SubW [] rfl ?_ ?_ rfl ?_; (repeat' (first | exact kA | refine kB ?_ | refine kC ?_ ?_ | exact kD | fail)))))
 |((with_reducible refine round_next (i := k) (k + 1) ?_ ?_ ?_); (focus (apply SubW [] rfl ?_ ?_ rfl ?_; (repeat' (first | exact kA | refine kB ?_ | refine kC ?_ ?_ | exact kD | fail)))))
 |refine wA ?_
 |(refine wC ?_ ?_ <;> intro hc)
 |refine wB ?_ ?_
 |(with_reducible refine JL.block ?_)
 |(with_reducible refine F_at ?_); refine eW (vs := [(_, _)]) Tryz.results19 ?_; (focus (repeat' (first | exact oA | refine oB ?_ | refine oC ?_ ?_ | fail)))
 |exact oM
 |fail)
 all_goals first | rfl | (exfalso; omega) | trace_state
theorem same_fn (c : CtlD) (hl : c.plan.length ≤ 1000000) (hf : Few c.mix) (hu : u8s c.mix.held) : FnSound Tryz.prog 9 [.val true (ctlC c), .val true (ctlC c)] [] { vals := [(false, [.d (.v (.bool true))])] } := by
 have he := equal_fn c.mix c.mix hf hf hu hu
 rw [decide_eq_true rfl] at he
 refine startW (tm := [(0, _), (1, _)]) Tryz.func9 rfl Tryz.ntmps9 rfl rfl rfl rfl ?_
 repeat' (first
 |(with_reducible refine K_ca 19 ?_); refine zC (same37_fn c.plan hl) ?_
 |(with_reducible refine K_ca 20 ?_); refine zC (he) ?_
 |refine wA ?_
 |(refine wC ?_ ?_ <;> intro hc)
 |refine wB ?_ ?_
 |(with_reducible refine JL.block ?_)
 |(with_reducible refine F_at ?_); refine eW (vs := [(_, _)]) Tryz.results9 ?_; (focus (repeat' (first | exact oA | refine oB ?_ | refine oC ?_ ?_ | fail)))
 |exact oM
 |fail)
 all_goals first | rfl | (exfalso; omega) | trace_state
end Go.Proofs.YtngjhkgcfabciaaGreat

namespace Go.Proofs.YtngjhkgcfabciaaGreat
open Go Go.RowKit
set_option maxRecDepth 100000
set_option maxHeartbeats 8000000
set_option linter.unusedSimpArgs false
set_option linter.unusedVariables false
theorem entryL_fn (k i : Int) : FnSound Tryz.prog 14 [.val false [.d (.v (.int .i64 k))], .val false [.d (.v (.int .i64 i))]] [] { vals := [(true, [.d (.v (.int .i64 k)), .d (.v (.int .i64 1)), .d (.v (.int .i64 i)), .d (.v (.string ByteArray.empty))])] } := by
 refine startW (tm := [(0, _), (1, _)]) Tryz.func14 rfl Tryz.ntmps14 rfl rfl rfl rfl ?_
 repeat' (first
 |refine wA ?_
 |(refine wC ?_ ?_ <;> intro hc)
 |refine wB ?_ ?_
 |(with_reducible refine JL.block ?_)
 |(with_reducible refine F_at ?_); refine eW (vs := [(_, _)]) Tryz.results14 ?_; (focus (repeat' (first | exact oA | refine oB ?_ | refine oC ?_ ?_ | fail)))
 |exact oM
 |fail)
 all_goals first | rfl | trace_state
def pA : Prob := ⟨[2], [0], [1], []⟩
def lA : List StepD := [⟨1, 0, 1⟩, ⟨2, 0, 0⟩]
def enA (k i : Int) : EntD := ⟨k, 1, i, ByteArray.empty⟩
theorem setA : setErr pA [2] = 0 := by kernel_rfl
theorem chkA : checkP pA lA = true := by kernel_rfl
theorem runA1 : replayP pA [2] lA [enA 5 0, enA 1 0, enA 2 0, enA 1 1] = (⟨lA, 1, 1, 0, 3, 0, ⟨[0], [1], []⟩⟩, 0) := by kernel_rfl
theorem runA2 : replayP pA [2] lA [enA 1 0, enA 3 0] = (⟨lA, 0, 3, 0, 2, 0, ⟨[0], [1], []⟩⟩, 0) := by kernel_rfl
theorem runA3 : replayP pA [2] lA [enA 1 0, enA 1 0] = (nilCtl, 1) := by kernel_rfl
theorem awake_fn : FnSound Tryz.prog 5 [] [] { vals := [(false, [.d (.v (.bool true))])] } := by
 have h1 := preplay_fn pA [2] lA [enA 5 0, enA 1 0, enA 2 0, enA 1 1] setA chkA (by decide) (by decide)
 rw [runA1] at h1
 have h2 := preplay_fn pA [2] lA [enA 1 0, enA 3 0] setA chkA (by decide) (by decide)
 rw [runA2] at h2
 have h3 := preplay_fn pA [2] lA [enA 1 0, enA 1 0] setA chkA (by decide) (by decide)
 rw [runA3] at h3
 refine startW (tm := []) Tryz.func5 rfl Tryz.ntmps5 rfl rfl rfl rfl ?_
 repeat' (first
 |(with_reducible refine reg_at (id := 3) ?_); (try (refine JL.shutBW (cs2 := [_, _, _, _]) (256, 200) 0 rfl rfl rfl rfl ?_)); (try (refine JL.shutBW (cs2 := [_, _, _, _]) (256, 200) 1 rfl rfl rfl rfl ?_)); (try (refine JL.shutBW (cs2 := [_, _, _, _]) (256, 200) 2 rfl rfl rfl rfl ?_)); (try (refine JL.zeroBW (cs2 := [_, _, _, _]) (256, 200) 3 _ 106 6 rfl rfl rfl rfl ?_)); (try (refine JL.shutBW (cs2 := [_, _, _, _]) (256, 200) 3 rfl rfl rfl rfl ?_)); (try (refine JL.shutW 2 rfl rfl ?_)); (with_reducible refine rg ?_ ?_); exact rfl
 |(with_reducible refine K_ca 14 ?_); (first
 |refine zC (entryL_fn 5 0) ?_
 |refine zC (entryL_fn 1 0) ?_
 |refine zC (entryL_fn 2 0) ?_
 |refine zC (entryL_fn 1 1) ?_
 |refine zC (entryL_fn 3 0) ?_)
 |(with_reducible refine W_at ?_); (first
 |(refine W.call (sh := [_, _]) rfl bo13.h h1 rfl rfl rfl rfl rfl rfl ?_)
 |(refine W.call (sh := [_, _]) rfl bo13.h h2 rfl rfl rfl rfl rfl rfl ?_)
 |(refine W.call (sh := [_, _]) rfl bo13.h h3 rfl rfl rfl rfl rfl rfl ?_))
 |refine wA ?_
 |(refine wC ?_ ?_ <;> intro hc)
 |refine wB ?_ ?_
 |(with_reducible refine JL.block ?_)
 |(with_reducible refine F_at ?_); refine eW (vs := [(_, _)]) Tryz.results5 ?_; (focus (repeat' (first | exact oA | refine oB ?_ | refine oC ?_ ?_ | fail)))
 |exact oM
 |fail)
 all_goals first | rfl | trace_state
end Go.Proofs.YtngjhkgcfabciaaGreat

namespace Go.Proofs.YtngjhkgcfabciaaGreat
open Go Go.RowKit
set_option linter.unusedSimpArgs false
set_option linter.unusedVariables false
theorem next_neg {p : Prob} {rs : List Int} {c : CtlD} {s : SigD} (hs : s.token < 0) (ht : 0 ≤ c.token) : nextP p rs c s = nextP p rs c { s with token := 0 } := by
 by_cases hk : s.kind = 1
 ·unfold nextP
  rw [if_pos hk, if_pos (by omega), if_pos (show ({ s with token := 0 } : SigD).kind = 1 from hk), if_pos (show ({ s with token := 0 } : SigD).token ≤ c.token from ht)]
 ·unfold nextP
  rw [if_neg hk, if_neg (show ¬ ({ s with token := 0 } : SigD).kind = 1 from hk)]
  rfl
structure SigK (p : Prob) (rs : List Int) (l : List StepD) (y : CtlD) (n : Int) : Prop where
 ck : CtlK p y
 cr : CtlR p rs y
 b : CtlB y l n
theorem SigK.next {p : Prob} {rs : List Int} {l : List StepD} {y : CtlD} {n : Int} (h : SigK p rs l y n) (s : SigD) (hn : n ≤ 100000000) (hs : setErr p rs = 0) (hl : l.length ≤ 1000000) : SigK p rs l (nextP p rs y s).1 (n + 1) := by
 have hso := setErr_ok hs
 have hvp := vp_all hso.1
 have hb := h.b
 have hrd := hb.rd
 have hrp := hb.rp
 have htk := hb.tk
 have go : ∀ s : SigD, 0 ≤ s.token → SigK p rs l (nextP p rs y s).1 (n + 1) := fun s ht => ⟨h.ck.next (by rw [hb.plan]; exact hl), h.cr.next h.ck hs (by rw [hb.plan]; exact hl) (by omega) (by omega) ht, hb.next hn hso.2.2 (by omega) ht⟩
 by_cases ht : 0 ≤ s.token
 ·exact go s ht
 ·rw [next_neg (by omega) htk]
  exact go _ (by show (0 : Int) ≤ 0; decide)
end Go.Proofs.YtngjhkgcfabciaaGreat

namespace Go.Proofs.YtngjhkgcfabciaaGreat
open Go Go.RowKit
set_option linter.unusedSimpArgs false
set_option linter.unusedVariables false
theorem CtlK.svc {p : Prob} {c : CtlD} (h : CtlK p c) (hp : ¬ c.phase = 6) (hk : ¬ (present c).kind = 3) : 0 ≤ (present c).idx ∧ (present c).idx < p.vs.length ∧ c.mix.base.length = p.vs.length ∧ c.mix.next.length = p.vs.length := by
 have hg := h.g
 have hs := (h.st hp).1
 exact ⟨hs.nn, hs.svc hk, hg.inn.lb, hg.inn.ln⟩
end Go.Proofs.YtngjhkgcfabciaaGreat

namespace Go.Proofs.YtngjhkgcfabciaaGreat
open Go Go.RowKit
set_option linter.unusedSimpArgs false
set_option linter.unusedVariables false
def FormA (c d : CtlD) (l : List ActD) : Prop := ∃ (E : List ActD) (r : Bool), l = E ++ (if r = true then repeatP d else []) ∧ ((E = [] ∧ d.round = c.round) ∨ (∃ x, E = [x] ∧ x.kind = 1 ∧ x.ent.token = d.token ∧ x.ent.idx = c.at_ ∧ d.round = w64 (c.round + 1)))
theorem form_tick {p : Prob} {rs : List Int} {c : CtlD} : FormA c (tickP p rs c).1 (tickP p rs c).2 := by
 unfold tickP
 split
 ·exact ⟨[], true, rfl, .inl ⟨rfl, rfl⟩⟩
 ·exact ⟨[entA c 1], true, rfl, .inr ⟨_, rfl, rfl, rfl, rfl, rfl⟩⟩
theorem next_form {p : Prob} {rs : List Int} {c : CtlD} {s : SigD} : FormA c (nextP p rs c s).1 (nextP p rs c s).2 := by
 unfold nextP
 split
 ·split
  ·exact ⟨[], false, rfl, .inl ⟨rfl, rfl⟩⟩
  ·exact form_tick (c := { c with token := s.token })
 ·split
  ·exact ⟨[], false, rfl, .inl ⟨rfl, rfl⟩⟩
  ·split
   ·exact ⟨[], false, rfl, .inl ⟨rfl, rfl⟩⟩
   ·split
    ·exact form_tick
    ·split
     ·unfold ackP
      split
      ·exact ⟨[], false, rfl, .inl ⟨rfl, rfl⟩⟩
      ·split
       ·exact ⟨[], false, rfl, .inl ⟨rfl, rfl⟩⟩
       ·split
        ·exact ⟨[], true, rfl, .inl ⟨rfl, rfl⟩⟩
        ·split
         ·exact ⟨[entA c 2], false, rfl, .inr ⟨_, rfl, rfl, rfl, rfl, rfl⟩⟩
         ·exact ⟨[], true, rfl, .inl ⟨rfl, rfl⟩⟩
     ·split
      ·split
       ·exact ⟨[entA c 2], false, rfl, .inr ⟨_, rfl, rfl, rfl, rfl, rfl⟩⟩
       ·exact ⟨[entA c 3], true, rfl, .inr ⟨_, rfl, rfl, rfl, rfl, rfl⟩⟩
      ·split
       ·exact ⟨[entA c 2], false, rfl, .inr ⟨_, rfl, rfl, rfl, rfl, rfl⟩⟩
       ·split
        ·exact ⟨[entA c 4], false, rfl, .inr ⟨_, rfl, rfl, rfl, rfl, rfl⟩⟩
        ·exact ⟨[], false, rfl, .inl ⟨rfl, rfl⟩⟩
end Go.Proofs.YtngjhkgcfabciaaGreat

namespace Go.Proofs.YtngjhkgcfabciaaGreat
open Go Go.RowKit
set_option linter.unusedSimpArgs false
set_option linter.unusedVariables false
def BareA (l : List ActD) : Prop := ∀ a ∈ l, a.kind = 1 → a.ent.data = ByteArray.empty ∧ a.ent.kind ≤ 5
theorem bare_nil : BareA [] := fun a h => by cases h
theorem bare_ent (c : CtlD) {k : Int} (hk : k ≤ 5) : BareA [entA c k] := fun a h => by
 obtain rfl := List.mem_singleton.1 h
 exact fun _ => ⟨rfl, hk⟩
theorem bare_app {a b : List ActD} (ha : BareA a) (hb : BareA b) : BareA (a ++ b) := fun x h => by
 rcases List.mem_append.1 h with h | h
 ·exact ha x h
 ·exact hb x h
theorem bare_rep (d : CtlD) : BareA (repeatP d) := by
 unfold repeatP
 split
 ·intro a h; obtain rfl := List.mem_singleton.1 h; exact fun e => absurd e (by show ¬ (2 : Int) = 1; decide)
 ·split
  ·intro a h; obtain rfl := List.mem_singleton.1 h; exact fun e => absurd e (by show ¬ (3 : Int) = 1; decide)
  ·split
   ·intro a h; obtain rfl := List.mem_singleton.1 h; exact fun e => absurd e (by show ¬ (4 : Int) = 1; decide)
   ·exact bare_nil
theorem bare_tick {p : Prob} {rs : List Int} {c : CtlD} : BareA (tickP p rs c).2 := by
 unfold tickP
 split
 ·exact bare_rep _
 ·exact bare_app (bare_ent c (k := 1) (by decide)) (bare_rep _)
theorem bare_next {p : Prob} {rs : List Int} {c : CtlD} {s : SigD} : BareA (nextP p rs c s).2 := by
 unfold nextP
 split
 ·split
  ·exact bare_nil
  ·exact bare_tick (c := { c with token := s.token })
 ·split
  ·exact bare_nil
  ·split
   ·exact bare_nil
   ·split
    ·exact bare_tick
    ·split
     ·unfold ackP
      split
      ·exact bare_nil
      ·split
       ·exact bare_nil
       ·split
        ·dsimp only; exact bare_rep _
        ·split
         ·exact bare_ent _ (by decide)
         ·dsimp only; exact bare_rep _
     ·split
      ·split
       ·exact bare_ent _ (by decide)
       ·exact bare_app (bare_ent c (k := 3) (by decide)) (bare_rep _)
      ·split
       ·exact bare_ent _ (by decide)
       ·split
        ·exact bare_ent _ (by decide)
        ·exact bare_nil
theorem form_mem {c d : CtlD} {l : List ActD} (h : FormA c d l) : ∀ a ∈ l, a.kind = 1 → a.ent.token = d.token ∧ a.ent.idx = c.at_ := fun a ha hk => by
 obtain ⟨E, r, rfl, h⟩ := h
 rcases List.mem_append.1 ha with ha | ha
 ·rcases h with ⟨rfl, _⟩ | ⟨x, rfl, _, e2, e3, _⟩
  ·cases ha
  ·obtain rfl := List.mem_singleton.1 ha
   exact ⟨e2, e3⟩
 ·cases r with
  | false => cases ha
  | true =>
   rw [if_pos rfl] at ha
   unfold repeatP at ha
   split at ha
   ·obtain rfl := List.mem_singleton.1 ha; exact absurd hk (by show ¬ (2 : Int) = 1; decide)
   ·split at ha
    ·obtain rfl := List.mem_singleton.1 ha; exact absurd hk (by show ¬ (3 : Int) = 1; decide)
    ·split at ha
     ·obtain rfl := List.mem_singleton.1 ha; exact absurd hk (by show ¬ (4 : Int) = 1; decide)
     ·cases ha
theorem ents_mem : ∀ {l : List ActD} {x : EntD}, x ∈ actEnts l → ∃ a ∈ l, a.kind = 1 ∧ a.ent = x
 | [], x, hx => by cases hx
 | a :: r, x, hx => by
  unfold actEnts at hx
  rcases List.mem_append.1 hx with hx | hx
  ·split at hx
   ·rename_i h1
    obtain rfl := List.mem_singleton.1 hx
    exact ⟨a, List.mem_cons_self .., h1, rfl⟩
   ·cases hx
  ·obtain ⟨b, h1, h2⟩ := ents_mem hx
   exact ⟨b, List.mem_cons_of_mem _ h1, h2⟩
def EntB (x : EntD) : Prop := x.data = ByteArray.empty ∧ x.kind ≤ 5 ∧ x.token ≤ 1000 ∧ x.idx ≤ 1000000
theorem past_b {p : Prob} {rs : List Int} {c0 : CtlD} {ch : List Int} {l : List StepD} (h : ∀ k, k ≤ 100 → PastK p rs l (pastAt p rs c0 ch k) k) (hl : l.length ≤ 1000000) : ∀ k, k ≤ 40 → ∀ x ∈ (pastAt p rs c0 ch k).ents, EntB x
 | 0, _, x, hx => by cases hx
 | k + 1, hk, x, hx => by
  have hx' : x ∈ (pastAt p rs c0 ch k).ents ++ leaseL (pastAt p rs c0 ch k).now (pastN p rs (pastAt p rs c0 ch k) (ch.getD k 0)).1 ++ actEnts (pastN p rs (pastAt p rs c0 ch k) (ch.getD k 0)).2 := hx
  have h0 := h k (by omega)
  have h1 := h (k + 1) (by omega)
  have ht : (pastN p rs (pastAt p rs c0 ch k) (ch.getD k 0)).1.token ≤ 10 * ((k + 1 : Nat) : Int) := h1.tk
  have hr := h0.ck.rng
  have hp := h0.b.plan
  rcases List.mem_append.1 hx' with h' | h'
  ·rcases List.mem_append.1 h' with h' | h'
   ·exact past_b h hl k (by omega) x h'
   ·unfold leaseL at h'
    split at h'
    ·obtain rfl := List.mem_singleton.1 h'
     exact ⟨rfl, by show (5 : Int) ≤ 5; decide, by show (pastN p rs (pastAt p rs c0 ch k) (ch.getD k 0)).1.token ≤ 1000; omega, by show (0 : Int) ≤ 1000000; decide⟩
    ·cases h'
  ·obtain ⟨a, a1, a2, rfl⟩ := ents_mem h'
   have b1 := bare_next a a1 a2
   have b2 := form_mem next_form a a1 a2
   rw [hp] at hr
   exact ⟨b1.1, b1.2, by rw [b2.1]; exact Int.le_trans ht (by omega), by rw [b2.2]; omega⟩
theorem past_get {l : List EntD} (h : ∀ x ∈ l, EntB x) (j : Nat) : EntB (l.getD j nilE) := by
 by_cases hj : j < l.length
 ·rw [List.getD_eq_getElem?_getD, List.getElem?_eq_getElem hj]
  exact h _ (List.getElem_mem hj)
 ·rw [List.getD_eq_getElem?_getD, List.getElem?_eq_none (by omega)]
  exact ⟨rfl, by show (0 : Int) ≤ 5; decide, by show (0 : Int) ≤ 1000; decide, by show (0 : Int) ≤ 1000000; decide⟩
end Go.Proofs.YtngjhkgcfabciaaGreat

namespace Go.Proofs.YtngjhkgcfabciaaGreat
open Go Go.RowKit
set_option maxRecDepth 100000
set_option maxHeartbeats 8000000
set_option linter.unusedSimpArgs false
set_option linter.unusedVariables false
end Go.Proofs.YtngjhkgcfabciaaGreat

namespace Go.Proofs.YtngjhkgcfabciaaGreat
open Go Go.RowKit
set_option maxRecDepth 100000
set_option maxHeartbeats 8000000
set_option linter.unusedSimpArgs false
set_option linter.unusedVariables false
theorem replayL_ctl {p : Prob} {rs : List Int} {l : List StepD} (hl : l.length ≤ 1000000) : ∀ {es : List EntD} {c : CtlD}, CtlK p c → c.plan = l → (replayL p rs c es).1 = nilCtl ∨ (CtlK p (replayL p rs c es).1 ∧ (replayL p rs c es).1.plan = l)
 | [], c, h, hp => .inr ⟨h, hp⟩
 | x :: r, c, h, hp => by
  unfold replayL
  cases e : oneP p rs c x with
  | none => exact .inl rfl
  | some d =>
   obtain ⟨a1, a2, _⟩ := h.one (by rw [hp]; exact hl) e
   exact replayL_ctl hl a1 (a2.trans hp)
theorem load_law (d : DraftD) (R ch rest : List Int) (cut : Int) (hd : draftOK d) (hR : u8s R) (hch : u8s ch) (hcut : 0 ≤ cut ∧ cut < 65536) : FnSound Tryz.prog 3 [.val true (caseC d R ch), .val false [.d (.v (.int .u16 cut))], .val false [.d (.sl 1 (dSets rest))]] [] { vals := [(false, [.d (.v (.bool true))])] } := by
 cases hk : caseOK d with
 | false =>
  have hof := past0_fn d R ch hd hk
  refine startW (tm := [(0, _), (1, _), (2, _)]) Tryz.func3 rfl Tryz.ntmps3 rfl rfl rfl rfl ?_
  repeat' (first
 |(with_reducible refine K_ca 4 ?_); refine zC (hof) ?_
 |(with_reducible refine K_ca 5 ?_); refine zC (awake_fn) ?_
 |refine wA ?_
 |(refine wC ?_ ?_ <;> intro hc)
 |refine wB ?_ ?_
 |(with_reducible refine JL.block ?_)
 |(with_reducible refine F_at ?_); refine eW (vs := [(_, _)]) Tryz.results3 ?_; (focus (repeat' (first | exact oA | refine oB ?_ | refine oC ?_ ?_ | fail)))
 |exact oM
 |fail)
  all_goals first | rfl | trace_state
 | true =>
  by_cases hc : ch.length ≤ 40
  ·have hof := past_fn d R ch hd hR hch hk hc
   by_cases h8 : rest.length ≤ 8
   ·have h := hk
    unfold caseOK at h
    rw [Bool.and_eq_true, Bool.and_eq_true, decide_eq_true_eq] at h
    have hv := ofP_sound hd h.1
    obtain ⟨f1, f2, f3⟩ := find_check h.2.2
    have hs := reps_set hv hR
    obtain ⟨n1, n2, n3, n4⟩ := newP_k hs f1
    have n5 := newP_r hs f1
    have e : newP (ofP d) (repsP R (ofP d).vs.length) (findP (ofP d)).1 = (⟨(findP (ofP d)).1, 0, if (findP (ofP d)).1.length = 0 then 6 else 0, 0, 0, 0, startM (ofP d)⟩, 0) := by unfold newP; rw [if_neg (by simpa using hs), f1, if_neg (by decide)]
    have n6 : (newP (ofP d) (repsP R (ofP d).vs.length) (findP (ofP d)).1).1.replica = 0 := by rw [e]
    have n7 : (newP (ofP d) (repsP R (ofP d).vs.length) (findP (ofP d)).1).1.token = 0 := by rw [e]
    have hpk := pastAt_k (ch := ch) n1 n5 ⟨n2, by omega, by omega, by omega⟩ n7 hs (by omega) hch
    have hen := (hpk ch.length (by omega)).en
    have hbb := past_get (past_b hpk (by omega) ch.length hc)
    clear hpk
    generalize hp : ofP d = p at *
    generalize hr : repsP R p.vs.length = rs at *
    generalize hl : (findP p).1 = l at *
    generalize hw : (newP p rs l).1 = c0 at *
    generalize pastAt p rs c0 ch ch.length = Y at *
    have hbare : ∀ k, (Y.ents.getD k nilE).data.size = 0 := fun k => by rw [(hbb k).1]; rfl
    have hLog := log_fn Y.ents (by omega) hbare (fun k => by have := hbb k; unfold EntB at this; unfold entI64; omega)
    have hsz := (logA_size hbare Y.ents.length).1
    generalize logA Y.ents Y.ents.length = G at hLog hsz
    have hm0 : 0 ≤ cut.tmod ((G.1.size : Int) + 1) ∧ cut.tmod ((G.1.size : Int) + 1) ≤ (G.1.size : Int) := by
     rw [Int.tmod_eq_emod_of_nonneg hcut.1]
     have := Int.emod_nonneg cut (show (G.1.size : Int) + 1 ≠ 0 by omega)
     have := Int.emod_lt_of_pos cut (show 0 < (G.1.size : Int) + 1 by omega)
     omega
    have hS : (G.1.extract 0 (cut.tmod ((G.1.size : Int) + 1)).toNat ++ strOfNums rest).size ≤ 6000 := by
     rw [ByteArray.size_append, nums_size, ByteArray.size_extract]
     omega
    have hP := pload_fn p rs l (G.1.extract 0 (cut.tmod ((G.1.size : Int) + 1)).toNat ++ strOfNums rest) hs f1 (by omega) hS
    have hQ := rload_fn p rs l (G.1.extract 0 (cut.tmod ((G.1.size : Int) + 1)).toNat ++ strOfNums rest) hs f1 (by omega) hS
    have hq : (loadP p rs l (G.1.extract 0 (cut.tmod ((G.1.size : Int) + 1)).toNat ++ strOfNums rest)).1 = nilCtl ∨ (CtlK p (loadP p rs l (G.1.extract 0 (cut.tmod ((G.1.size : Int) + 1)).toNat ++ strOfNums rest)).1 ∧ (loadP p rs l (G.1.extract 0 (cut.tmod ((G.1.size : Int) + 1)).toNat ++ strOfNums rest)).1.plan = l) := by
     unfold loadP
     split
     ·exact .inl rfl
     ·unfold replayP
      rw [if_neg (by simpa using n4), hw]
      exact replayL_ctl (by omega) n1 n2
    have hSm := same_fn (loadP p rs l (G.1.extract 0 (cut.tmod ((G.1.size : Int) + 1)).toNat ++ strOfNums rest)).1 (by rcases hq with e | e; rw [e]; decide; rw [e.2]; omega) (by rcases hq with e | e; rw [e]; exact ⟨by decide, by decide, by decide⟩; exact e.1.g.few) (by rcases hq with e | e; rw [e]; exact (fun x hx => by cases hx); exact e.1.g.u)
    have hsr : (strOfNums rest).size ≤ 8 := by rw [nums_size]; exact h8
    have hex : (G.1.extract 0 (cut.tmod ((G.1.size : Int) + 1)).toNat).size ≤ 6000 := by rw [ByteArray.size_extract]; omega
    clear hq n1 n2 n3 n4 n5 hs hbare hbb e
    refine startW (tm := [(0, _), (1, _), (2, _)]) Tryz.func3 rfl Tryz.ntmps3 rfl rfl rfl rfl ?_
    repeat' (first
 |(with_reducible refine K_ca 4 ?_); refine zC (hof) ?_
 |(with_reducible refine K_ca 5 ?_); refine zC (awake_fn) ?_
 |(with_reducible refine K_ca 6 ?_); refine zC (hLog) ?_
 |(with_reducible refine K_ca 7 ?_); refine zC (hP) ?_
 |(with_reducible refine K_ca 8 ?_); refine zC (hQ) ?_
 |(with_reducible refine K_ca 9 ?_); refine zC (hSm) ?_
 |refine wA ?_
 |(refine wC ?_ ?_ <;> intro hc)
 |refine wB ?_ ?_
 |(with_reducible refine JL.block ?_)
 |(with_reducible refine F_at ?_); refine eW (vs := [(_, _)]) Tryz.results3 ?_; (focus (repeat' (first | exact oA | refine oB ?_ | refine oC ?_ ?_ | fail)))
 |exact oM
 |fail)
    all_goals first | rfl | (exfalso; omega) | (exfalso; exact hc rfl) | (simp; done) | trace_state
   ·refine startW (tm := [(0, _), (1, _), (2, _)]) Tryz.func3 rfl Tryz.ntmps3 rfl rfl rfl rfl ?_
    repeat' (first
 |(with_reducible refine K_ca 4 ?_); refine zC (hof) ?_
 |(with_reducible refine K_ca 5 ?_); refine zC (awake_fn) ?_
 |refine wA ?_
 |(refine wC ?_ ?_ <;> intro hc)
 |refine wB ?_ ?_
 |(with_reducible refine JL.block ?_)
 |(with_reducible refine F_at ?_); refine eW (vs := [(_, _)]) Tryz.results3 ?_; (focus (repeat' (first | exact oA | refine oB ?_ | refine oC ?_ ?_ | fail)))
 |exact oM
 |fail)
    all_goals first | rfl | (exfalso; omega) | trace_state
  ·have hof := past1_fn d R ch hd hR hk hc
   refine startW (tm := [(0, _), (1, _), (2, _)]) Tryz.func3 rfl Tryz.ntmps3 rfl rfl rfl rfl ?_
   repeat' (first
 |(with_reducible refine K_ca 4 ?_); refine zC (hof) ?_
 |(with_reducible refine K_ca 5 ?_); refine zC (awake_fn) ?_
 |refine wA ?_
 |(refine wC ?_ ?_ <;> intro hc)
 |refine wB ?_ ?_
 |(with_reducible refine JL.block ?_)
 |(with_reducible refine F_at ?_); refine eW (vs := [(_, _)]) Tryz.results3 ?_; (focus (repeat' (first | exact oA | refine oB ?_ | refine oC ?_ ?_ | fail)))
 |exact oM
 |fail)
   all_goals first | rfl | (exfalso; omega) | trace_state
end Go.Proofs.YtngjhkgcfabciaaGreat

namespace Go.Proofs.YtngjhkgcfabciaaGreat
open Go.ChangeShapes Go.WideShapes Go.ChangeAt Go.RowKit Go.Joins Go.Deep
set_option linter.unusedSimpArgs false
set_option linter.unusedVariables false
set_option maxRecDepth 100000
section
variable {H : Type} {enc : TypeId × Value → H} {w : World} {base : Nat} {spare : Nat → Bool} {held : Bool} {S : Nat → Prop}
theorem open_u8sL (hS : ∀ b, S b) {r : Reach} {b0 : Nat} {v : Value} {d : DataW H} {p : List MemPlace} (hv : Value.okWide Tryz.prog w r b0 22 v) (hs : Sz Tryz.prog 22 d) (h : DataW.Trod enc Tryz.prog w base spare held 22 v d p) :
    ∃ l : List Int, (∀ (ρ : Key → Hd) (ok : Key → Prop), AVRel (CRel S ρ ok w) (.one false [.d (.sl 1 (dSets l))]) v) ∧ u8s l := by
 obtain ⟨A, n, c, rfl⟩ := okWide_slice Tryz.underlying22 hv
 obtain ⟨fuel, hf⟩ := h
 obtain ⟨l, h1, h2⟩ := open_setsD (S := S) hS (by exact hs) (show DataW.trod enc Tryz.prog w base spare held fuel 22 [.slice A n c] = some _ from hf)
 exact ⟨l, fun ρ ok => ⟨[_], .cons h1 .nil, by simp⟩, h2⟩
end
set_option maxRecDepth 100000 in
theorem recoveryLoad_lifted (os : Os) (started : os.Started) (H : Type) (enc : TypeId × Value → H) :
    ReturnsInHanded {} Tryz.checked os 3 .any (Rows.recoveryLoadSpec.pre6 enc Tryz.prog Tryz.f3 Rows.recoveryLoadRow.domain false) (Rows.recoveryLoadSpec.post enc Tryz.prog Tryz.f3 false true false false) := by
 refine returnsInHanded_of_change_sized (C := Tryz.checked) own started (by kernel_rfl) Tryz.func3
  (ChangeSpec.witness6 (enc := enc) (C := Tryz.checked) false ⟨#[], #[.agg #[.slice none 0 0, .slice none 0 0, .slice none 0 0, .slice none 0 0, .slice none 0 0, .slice none 0 0], .int .u16 0, .slice none 0 0], []⟩ 8 (by kernel_rfl) (by kernel_rfl) (by kernel_rfl) (by kernel_rfl)) ?_
 intro W base args ds gs before hval hW hcnd hsz _
 have hW' := hW
 obtain ⟨p, q, hA0, hV, rfl, hfz, hnd⟩ := hW
 have hval' : ∀ (j : Nat) t v, Tryz.f3.params[j]? = some t → args[j]? = some v → Value.okWide Tryz.prog W .any base t v := hval
 have hA : DataW.TrodAll enc Tryz.prog W 0 (fun _ => true) true Tryz.f3.params.toList args.toList ds p := hA0
 rw [Tryz.params3] at hA hval'
 obtain ⟨v0, vs0, d0, ds0, p0, q0, hargs, rfl, rfl, h0, r0⟩ := trodAll_cons hA
 obtain ⟨v1, vs1, d1, ds1, p1, q1, rfl, rfl, rfl, h1, r1⟩ := trodAll_cons r0
 obtain ⟨v2, vs2, d2, ds2, p2, q2, rfl, rfl, rfl, h2, r2⟩ := trodAll_cons r1
 obtain ⟨rfl, rfl, rfl⟩ := trodAll_nil r2
 obtain rfl : args = #[v0, v1, v2] := by cases args; simp_all
 obtain ⟨x, R, ch, a0, k0, k1, k2⟩ := open_case (S := S0) S0_all (hval' 0 27 v0 rfl rfl) (sz_arg hsz (j := 0) (t := 27) rfl rfl) h0
 obtain ⟨n, rfl, _, _, b1⟩ := open_int Tryz.underlying28 (hval' 1 28 v1 rfl rfl) h1
 have hn : 0 ≤ n ∧ n < 65536 := by
  simp [Lit.wf, IntKind.min, IntKind.max, IntKind.signed, IntKind.bits] at b1
  omega
 obtain ⟨x2, a2, s2⟩ := open_u8sL (S := S0) S0_all (hval' 2 22 v2 rfl rfl) (sz_arg hsz (j := 2) (t := 22) rfl rfl) h2
 have hC := calls_of_fn (xs := [(true, caseC x R ch), (false, [.d (.v (.int .u16 n))]), (false, [.d (.sl 1 (dSets x2))])]) (vals := [v0, .int .u16 n, v2]) (w := W) (load_law x R ch x2 n k0 k1 k2 hn) rfl (fun i y hy => match i, hy with
  | 0, hy => by cases hy; exact a0 ρ0 _
  | 1, hy => by cases hy; exact ⟨[.int .u16 n], .cons (.v rfl) .nil, rfl⟩
  | 2, hy => by cases hy; exact a2 ρ0 _
  | _ + 3, hy => by cases hy)
 refine (hC).mono fun e W' ⟨he, hb⟩ => ⟨_, he, law_post rfl laid (by kernel_rfl) (by kernel_rfl) Tryz.underlying4 hW' rfl hb⟩
theorem recoveryLoad_holds : Rows.RecoveryLoadSaid :=
 OpenClaim.holds_of_wide 3 Tryz.f3 rfl rfl rfl rfl rfl rfl rfl ⟨rfl, rfl, rfl, rfl, rfl⟩ rfl rfl rfl rfl rfl (by kernel_rfl) Tryz.func3 (by kernel_rfl)
  (of_decide_eq_true (by kernel_rfl)) (by unfold Func.isWrapper; first | (rw [if_pos (by decide +kernel)]; kernel_rfl) | (rw [if_neg (by decide +kernel)]; exact ⟨rfl, rfl⟩))
  (fun os started H enc _ => recoveryLoad_lifted os started H enc)
#print axioms recoveryLoad_holds
end Go.Proofs.YtngjhkgcfabciaaGreat

