/- Rules of runs and contracts of functions, for the claims of one seat. -/
import Derived.Test.YtjpdemikmdfonaaGreatDoorFA15
import Derived.Test.YtjpdemikmdfonaaGreatDoorFA21
import Derived.Test.YtjpdemikmdfonaaGreatDoorFA27
namespace Go.Proofs.YtjpdemikmdfonaaGreatDoor
open Go Go.RowKit
set_option maxRecDepth 100000
set_option maxHeartbeats 8000000
set_option linter.unusedSimpArgs false
set_option linter.unusedVariables false
theorem zeroP_me {k : Int} {b : Bool} {n : Int} {s : ByteArray} {i : Int} {ks is : List ValD} {rs : List RawD} : zeroP (.mk k b n s i ks is rs) = ((decide (k = 1) || !b) && (decide (k = 2) || decide (n = 0)) && (decide (k = 3) || decide (s = ByteArray.empty)) && (decide (k = 4 ∨ k = 6) || decide (i = 0)) && (decide (k = 8) || decide ((ks.length : Int) = 0)) && (decide (5 ≤ k) || decide ((is.length : Int) = 0)) && (decide (k = 5 ∨ k = 6) || decide ((rs.length : Int) = 0))) := zeroP_mk
theorem pbare_1 (b : Bool) (n : Int) (s : ByteArray) (i : Int) (ks is : List ValD) (rs : List RawD) : FnSound Tryz.prog 340 [.val true (valC (.mk 1 b n s i ks is rs))] [] { vals := [(true, [.d (.v (.int .i64 1)), .d (.v (.bool b)), .d (.v (.int .i64 0)), .d (.v (.string ByteArray.empty)), .d (.v (.int .i64 0)), .zero, .zero, .zero])] } := by
 refine startW (tm := [(0, _)]) Tryz.func340 rfl Tryz.ntmps340 rfl rfl rfl rfl ?_
 repeat' (first
 |refine wA ?_
 |(refine wC ?_ ?_ <;> intro hc)
 |refine wB ?_ ?_
 |(with_reducible refine JL.block ?_)
 |(with_reducible refine F_at ?_); refine eW (vs := [(_, _)]) Tryz.results340 ?_; (focus (repeat' (first | exact oA | refine oB ?_ | refine oC ?_ ?_ | fail)))
 |exact oM
 |fail)
 all_goals first | with_reducible rfl | rfl | trace_state
theorem pproper_1 (b : Bool) (n : Int) (s : ByteArray) (i : Int) (ks is : List ValD) (rs : List RawD) : FnSound Tryz.prog 295 [.val true (valC (.mk 1 b n s i ks is rs))] [] { vals := [(false, [.d (.v (.bool (zeroP (.mk 1 b n s i ks is rs))))])] } := by
 refine startW (tm := [(0, _)]) Tryz.func295 rfl Tryz.ntmps295 rfl rfl rfl rfl ?_
 repeat' (first
 |(with_reducible refine K_ca 340 ?_); refine zC (pbare_1 b n s i ks is rs) ?_
 |(with_reducible refine W_at ?_); (first
 |(with_reducible refine W.consA ?_)
 |(with_reducible refine W.nilA ?_))
 |refine wA ?_
 |(refine wC ?_ ?_ <;> intro hc)
 |refine wB ?_ ?_
 |(with_reducible refine JL.block ?_)
 |(with_reducible refine F_at ?_); refine eW (vs := [(_, _)]) Tryz.results295 ?_; (focus (repeat' (first | exact oA | refine oB ?_ | refine oC ?_ ?_ | fail)))
 |exact oM
 |fail)
 all_goals first
  | with_reducible rfl
  | (rw [zeroP_me]; simp only [ValD.kind, ValD.b, ValD.n, ValD.s, ValD.id, ValD.keys, ValD.items, ValD.rest] at *; simp_all; done)
  | trace_state
theorem pbare_2 (b : Bool) (n : Int) (s : ByteArray) (i : Int) (ks is : List ValD) (rs : List RawD) : FnSound Tryz.prog 340 [.val true (valC (.mk 2 b n s i ks is rs))] [] { vals := [(true, [.d (.v (.int .i64 2)), .d (.v (.bool false)), .d (.v (.int .i64 n)), .d (.v (.string ByteArray.empty)), .d (.v (.int .i64 0)), .zero, .zero, .zero])] } := by
 refine startW (tm := [(0, _)]) Tryz.func340 rfl Tryz.ntmps340 rfl rfl rfl rfl ?_
 repeat' (first
 |refine wA ?_
 |(refine wC ?_ ?_ <;> intro hc)
 |refine wB ?_ ?_
 |(with_reducible refine JL.block ?_)
 |(with_reducible refine F_at ?_); refine eW (vs := [(_, _)]) Tryz.results340 ?_; (focus (repeat' (first | exact oA | refine oB ?_ | refine oC ?_ ?_ | fail)))
 |exact oM
 |fail)
 all_goals first | with_reducible rfl | rfl | trace_state
theorem pproper_2 (b : Bool) (n : Int) (s : ByteArray) (i : Int) (ks is : List ValD) (rs : List RawD) : FnSound Tryz.prog 295 [.val true (valC (.mk 2 b n s i ks is rs))] [] { vals := [(false, [.d (.v (.bool (zeroP (.mk 2 b n s i ks is rs))))])] } := by
 refine startW (tm := [(0, _)]) Tryz.func295 rfl Tryz.ntmps295 rfl rfl rfl rfl ?_
 repeat' (first
 |(with_reducible refine K_ca 340 ?_); refine zC (pbare_2 b n s i ks is rs) ?_
 |(with_reducible refine W_at ?_); (first
 |(with_reducible refine W.consA ?_)
 |(with_reducible refine W.nilA ?_))
 |refine wA ?_
 |(refine wC ?_ ?_ <;> intro hc)
 |refine wB ?_ ?_
 |(with_reducible refine JL.block ?_)
 |(with_reducible refine F_at ?_); refine eW (vs := [(_, _)]) Tryz.results295 ?_; (focus (repeat' (first | exact oA | refine oB ?_ | refine oC ?_ ?_ | fail)))
 |exact oM
 |fail)
 all_goals first
  | with_reducible rfl
  | (rw [zeroP_me]; simp only [ValD.kind, ValD.b, ValD.n, ValD.s, ValD.id, ValD.keys, ValD.items, ValD.rest] at *; simp_all; done)
  | trace_state
theorem pbare_3 (b : Bool) (n : Int) (s : ByteArray) (i : Int) (ks is : List ValD) (rs : List RawD) : FnSound Tryz.prog 340 [.val true (valC (.mk 3 b n s i ks is rs))] [] { vals := [(true, [.d (.v (.int .i64 3)), .d (.v (.bool false)), .d (.v (.int .i64 0)), .d (.v (.string s)), .d (.v (.int .i64 0)), .zero, .zero, .zero])] } := by
 refine startW (tm := [(0, _)]) Tryz.func340 rfl Tryz.ntmps340 rfl rfl rfl rfl ?_
 repeat' (first
 |refine wA ?_
 |(refine wC ?_ ?_ <;> intro hc)
 |refine wB ?_ ?_
 |(with_reducible refine JL.block ?_)
 |(with_reducible refine F_at ?_); refine eW (vs := [(_, _)]) Tryz.results340 ?_; (focus (repeat' (first | exact oA | refine oB ?_ | refine oC ?_ ?_ | fail)))
 |exact oM
 |fail)
 all_goals first | with_reducible rfl | rfl | trace_state
theorem pproper_3 (b : Bool) (n : Int) (s : ByteArray) (i : Int) (ks is : List ValD) (rs : List RawD) : FnSound Tryz.prog 295 [.val true (valC (.mk 3 b n s i ks is rs))] [] { vals := [(false, [.d (.v (.bool (zeroP (.mk 3 b n s i ks is rs))))])] } := by
 refine startW (tm := [(0, _)]) Tryz.func295 rfl Tryz.ntmps295 rfl rfl rfl rfl ?_
 repeat' (first
 |(with_reducible refine K_ca 340 ?_); refine zC (pbare_3 b n s i ks is rs) ?_
 |(with_reducible refine W_at ?_); (first
 |(with_reducible refine W.consA ?_)
 |(with_reducible refine W.nilA ?_))
 |refine wA ?_
 |(refine wC ?_ ?_ <;> intro hc)
 |refine wB ?_ ?_
 |(with_reducible refine JL.block ?_)
 |(with_reducible refine F_at ?_); refine eW (vs := [(_, _)]) Tryz.results295 ?_; (focus (repeat' (first | exact oA | refine oB ?_ | refine oC ?_ ?_ | fail)))
 |exact oM
 |fail)
 all_goals first
  | with_reducible rfl
  | (rw [zeroP_me]; simp only [ValD.kind, ValD.b, ValD.n, ValD.s, ValD.id, ValD.keys, ValD.items, ValD.rest] at *; simp_all; done)
  | trace_state
theorem pbare_4 (b : Bool) (n : Int) (s : ByteArray) (i : Int) (ks is : List ValD) (rs : List RawD) : FnSound Tryz.prog 340 [.val true (valC (.mk 4 b n s i ks is rs))] [] { vals := [(true, [.d (.v (.int .i64 4)), .d (.v (.bool false)), .d (.v (.int .i64 0)), .d (.v (.string ByteArray.empty)), .d (.v (.int .i64 i)), .zero, .zero, .zero])] } := by
 refine startW (tm := [(0, _)]) Tryz.func340 rfl Tryz.ntmps340 rfl rfl rfl rfl ?_
 repeat' (first
 |refine wA ?_
 |(refine wC ?_ ?_ <;> intro hc)
 |refine wB ?_ ?_
 |(with_reducible refine JL.block ?_)
 |(with_reducible refine F_at ?_); refine eW (vs := [(_, _)]) Tryz.results340 ?_; (focus (repeat' (first | exact oA | refine oB ?_ | refine oC ?_ ?_ | fail)))
 |exact oM
 |fail)
 all_goals first | with_reducible rfl | rfl | trace_state
theorem pproper_4 (b : Bool) (n : Int) (s : ByteArray) (i : Int) (ks is : List ValD) (rs : List RawD) : FnSound Tryz.prog 295 [.val true (valC (.mk 4 b n s i ks is rs))] [] { vals := [(false, [.d (.v (.bool (zeroP (.mk 4 b n s i ks is rs))))])] } := by
 refine startW (tm := [(0, _)]) Tryz.func295 rfl Tryz.ntmps295 rfl rfl rfl rfl ?_
 repeat' (first
 |(with_reducible refine K_ca 340 ?_); refine zC (pbare_4 b n s i ks is rs) ?_
 |(with_reducible refine W_at ?_); (first
 |(with_reducible refine W.consA ?_)
 |(with_reducible refine W.nilA ?_))
 |refine wA ?_
 |(refine wC ?_ ?_ <;> intro hc)
 |refine wB ?_ ?_
 |(with_reducible refine JL.block ?_)
 |(with_reducible refine F_at ?_); refine eW (vs := [(_, _)]) Tryz.results295 ?_; (focus (repeat' (first | exact oA | refine oB ?_ | refine oC ?_ ?_ | fail)))
 |exact oM
 |fail)
 all_goals first
  | with_reducible rfl
  | (rw [zeroP_me]; simp only [ValD.kind, ValD.b, ValD.n, ValD.s, ValD.id, ValD.keys, ValD.items, ValD.rest] at *; simp_all; done)
  | trace_state
theorem pbare_5 (b : Bool) (n : Int) (s : ByteArray) (i : Int) (ks is : List ValD) (rs : List RawD) : FnSound Tryz.prog 340 [.val true (valC (.mk 5 b n s i ks is rs))] [] { vals := [(true, [.d (.v (.int .i64 5)), .d (.v (.bool false)), .d (.v (.int .i64 0)), .d (.v (.string ByteArray.empty)), .d (.v (.int .i64 0)), .zero, .d (.sl 8 (dVals is)), .d (.sl 2 (dRaws rs))])] } := by
 refine startW (tm := [(0, _)]) Tryz.func340 rfl Tryz.ntmps340 rfl rfl rfl rfl ?_
 repeat' (first
 |refine wA ?_
 |(refine wC ?_ ?_ <;> intro hc)
 |refine wB ?_ ?_
 |(with_reducible refine JL.block ?_)
 |(with_reducible refine F_at ?_); refine eW (vs := [(_, _)]) Tryz.results340 ?_; (focus (repeat' (first | exact oA | refine oB ?_ | refine oC ?_ ?_ | fail)))
 |exact oM
 |fail)
 all_goals first | with_reducible rfl | rfl | trace_state
theorem pproper_5 (b : Bool) (n : Int) (s : ByteArray) (i : Int) (ks is : List ValD) (rs : List RawD) : FnSound Tryz.prog 295 [.val true (valC (.mk 5 b n s i ks is rs))] [] { vals := [(false, [.d (.v (.bool (zeroP (.mk 5 b n s i ks is rs))))])] } := by
 refine startW (tm := [(0, _)]) Tryz.func295 rfl Tryz.ntmps295 rfl rfl rfl rfl ?_
 repeat' (first
 |(with_reducible refine K_ca 340 ?_); refine zC (pbare_5 b n s i ks is rs) ?_
 |(with_reducible refine W_at ?_); (first
 |(with_reducible refine W.consA ?_)
 |(with_reducible refine W.nilA ?_))
 |refine wA ?_
 |(refine wC ?_ ?_ <;> intro hc)
 |refine wB ?_ ?_
 |(with_reducible refine JL.block ?_)
 |(with_reducible refine F_at ?_); refine eW (vs := [(_, _)]) Tryz.results295 ?_; (focus (repeat' (first | exact oA | refine oB ?_ | refine oC ?_ ?_ | fail)))
 |exact oM
 |fail)
 all_goals first
  | with_reducible rfl
  | (rw [zeroP_me]; simp only [ValD.kind, ValD.b, ValD.n, ValD.s, ValD.id, ValD.keys, ValD.items, ValD.rest] at *; simp_all; done)
  | trace_state
theorem pbare_6 (b : Bool) (n : Int) (s : ByteArray) (i : Int) (ks is : List ValD) (rs : List RawD) : FnSound Tryz.prog 340 [.val true (valC (.mk 6 b n s i ks is rs))] [] { vals := [(true, [.d (.v (.int .i64 6)), .d (.v (.bool false)), .d (.v (.int .i64 0)), .d (.v (.string ByteArray.empty)), .d (.v (.int .i64 i)), .zero, .d (.sl 8 (dVals is)), .d (.sl 2 (dRaws rs))])] } := by
 refine startW (tm := [(0, _)]) Tryz.func340 rfl Tryz.ntmps340 rfl rfl rfl rfl ?_
 repeat' (first
 |refine wA ?_
 |(refine wC ?_ ?_ <;> intro hc)
 |refine wB ?_ ?_
 |(with_reducible refine JL.block ?_)
 |(with_reducible refine F_at ?_); refine eW (vs := [(_, _)]) Tryz.results340 ?_; (focus (repeat' (first | exact oA | refine oB ?_ | refine oC ?_ ?_ | fail)))
 |exact oM
 |fail)
 all_goals first | with_reducible rfl | rfl | trace_state
theorem pproper_6 (b : Bool) (n : Int) (s : ByteArray) (i : Int) (ks is : List ValD) (rs : List RawD) : FnSound Tryz.prog 295 [.val true (valC (.mk 6 b n s i ks is rs))] [] { vals := [(false, [.d (.v (.bool (zeroP (.mk 6 b n s i ks is rs))))])] } := by
 refine startW (tm := [(0, _)]) Tryz.func295 rfl Tryz.ntmps295 rfl rfl rfl rfl ?_
 repeat' (first
 |(with_reducible refine K_ca 340 ?_); refine zC (pbare_6 b n s i ks is rs) ?_
 |(with_reducible refine W_at ?_); (first
 |(with_reducible refine W.consA ?_)
 |(with_reducible refine W.nilA ?_))
 |refine wA ?_
 |(refine wC ?_ ?_ <;> intro hc)
 |refine wB ?_ ?_
 |(with_reducible refine JL.block ?_)
 |(with_reducible refine F_at ?_); refine eW (vs := [(_, _)]) Tryz.results295 ?_; (focus (repeat' (first | exact oA | refine oB ?_ | refine oC ?_ ?_ | fail)))
 |exact oM
 |fail)
 all_goals first
  | with_reducible rfl
  | (rw [zeroP_me]; simp only [ValD.kind, ValD.b, ValD.n, ValD.s, ValD.id, ValD.keys, ValD.items, ValD.rest] at *; simp_all; done)
  | trace_state
theorem pbare_7 (b : Bool) (n : Int) (s : ByteArray) (i : Int) (ks is : List ValD) (rs : List RawD) : FnSound Tryz.prog 340 [.val true (valC (.mk 7 b n s i ks is rs))] [] { vals := [(true, [.d (.v (.int .i64 7)), .d (.v (.bool false)), .d (.v (.int .i64 0)), .d (.v (.string ByteArray.empty)), .d (.v (.int .i64 0)), .zero, .d (.sl 8 (dVals is)), .zero])] } := by
 refine startW (tm := [(0, _)]) Tryz.func340 rfl Tryz.ntmps340 rfl rfl rfl rfl ?_
 repeat' (first
 |refine wA ?_
 |(refine wC ?_ ?_ <;> intro hc)
 |refine wB ?_ ?_
 |(with_reducible refine JL.block ?_)
 |(with_reducible refine F_at ?_); refine eW (vs := [(_, _)]) Tryz.results340 ?_; (focus (repeat' (first | exact oA | refine oB ?_ | refine oC ?_ ?_ | fail)))
 |exact oM
 |fail)
 all_goals first | with_reducible rfl | rfl | trace_state
theorem pproper_7 (b : Bool) (n : Int) (s : ByteArray) (i : Int) (ks is : List ValD) (rs : List RawD) : FnSound Tryz.prog 295 [.val true (valC (.mk 7 b n s i ks is rs))] [] { vals := [(false, [.d (.v (.bool (zeroP (.mk 7 b n s i ks is rs))))])] } := by
 refine startW (tm := [(0, _)]) Tryz.func295 rfl Tryz.ntmps295 rfl rfl rfl rfl ?_
 repeat' (first
 |(with_reducible refine K_ca 340 ?_); refine zC (pbare_7 b n s i ks is rs) ?_
 |(with_reducible refine W_at ?_); (first
 |(with_reducible refine W.consA ?_)
 |(with_reducible refine W.nilA ?_))
 |refine wA ?_
 |(refine wC ?_ ?_ <;> intro hc)
 |refine wB ?_ ?_
 |(with_reducible refine JL.block ?_)
 |(with_reducible refine F_at ?_); refine eW (vs := [(_, _)]) Tryz.results295 ?_; (focus (repeat' (first | exact oA | refine oB ?_ | refine oC ?_ ?_ | fail)))
 |exact oM
 |fail)
 all_goals first
  | with_reducible rfl
  | (rw [zeroP_me]; simp only [ValD.kind, ValD.b, ValD.n, ValD.s, ValD.id, ValD.keys, ValD.items, ValD.rest] at *; simp_all; done)
  | trace_state
theorem pbare_8 (b : Bool) (n : Int) (s : ByteArray) (i : Int) (ks is : List ValD) (rs : List RawD) : FnSound Tryz.prog 340 [.val true (valC (.mk 8 b n s i ks is rs))] [] { vals := [(true, [.d (.v (.int .i64 8)), .d (.v (.bool false)), .d (.v (.int .i64 0)), .d (.v (.string ByteArray.empty)), .d (.v (.int .i64 0)), .d (.sl 8 (dVals ks)), .d (.sl 8 (dVals is)), .zero])] } := by
 refine startW (tm := [(0, _)]) Tryz.func340 rfl Tryz.ntmps340 rfl rfl rfl rfl ?_
 repeat' (first
 |refine wA ?_
 |(refine wC ?_ ?_ <;> intro hc)
 |refine wB ?_ ?_
 |(with_reducible refine JL.block ?_)
 |(with_reducible refine F_at ?_); refine eW (vs := [(_, _)]) Tryz.results340 ?_; (focus (repeat' (first | exact oA | refine oB ?_ | refine oC ?_ ?_ | fail)))
 |exact oM
 |fail)
 all_goals first | with_reducible rfl | rfl | trace_state
theorem pproper_8 (b : Bool) (n : Int) (s : ByteArray) (i : Int) (ks is : List ValD) (rs : List RawD) : FnSound Tryz.prog 295 [.val true (valC (.mk 8 b n s i ks is rs))] [] { vals := [(false, [.d (.v (.bool (zeroP (.mk 8 b n s i ks is rs))))])] } := by
 refine startW (tm := [(0, _)]) Tryz.func295 rfl Tryz.ntmps295 rfl rfl rfl rfl ?_
 repeat' (first
 |(with_reducible refine K_ca 340 ?_); refine zC (pbare_8 b n s i ks is rs) ?_
 |(with_reducible refine W_at ?_); (first
 |(with_reducible refine W.consA ?_)
 |(with_reducible refine W.nilA ?_))
 |refine wA ?_
 |(refine wC ?_ ?_ <;> intro hc)
 |refine wB ?_ ?_
 |(with_reducible refine JL.block ?_)
 |(with_reducible refine F_at ?_); refine eW (vs := [(_, _)]) Tryz.results295 ?_; (focus (repeat' (first | exact oA | refine oB ?_ | refine oC ?_ ?_ | fail)))
 |exact oM
 |fail)
 all_goals first
  | with_reducible rfl
  | (rw [zeroP_me]; simp only [ValD.kind, ValD.b, ValD.n, ValD.s, ValD.id, ValD.keys, ValD.items, ValD.rest] at *; simp_all; done)
  | trace_state
theorem pbare_9 (b : Bool) (n : Int) (s : ByteArray) (i : Int) (ks is : List ValD) (rs : List RawD) : FnSound Tryz.prog 340 [.val true (valC (.mk 9 b n s i ks is rs))] [] { vals := [(true, [.d (.v (.int .i64 9)), .d (.v (.bool false)), .d (.v (.int .i64 0)), .d (.v (.string ByteArray.empty)), .d (.v (.int .i64 0)), .zero, .d (.sl 8 (dVals is)), .zero])] } := by
 refine startW (tm := [(0, _)]) Tryz.func340 rfl Tryz.ntmps340 rfl rfl rfl rfl ?_
 repeat' (first
 |refine wA ?_
 |(refine wC ?_ ?_ <;> intro hc)
 |refine wB ?_ ?_
 |(with_reducible refine JL.block ?_)
 |(with_reducible refine F_at ?_); refine eW (vs := [(_, _)]) Tryz.results340 ?_; (focus (repeat' (first | exact oA | refine oB ?_ | refine oC ?_ ?_ | fail)))
 |exact oM
 |fail)
 all_goals first | with_reducible rfl | rfl | trace_state
theorem pproper_9 (b : Bool) (n : Int) (s : ByteArray) (i : Int) (ks is : List ValD) (rs : List RawD) : FnSound Tryz.prog 295 [.val true (valC (.mk 9 b n s i ks is rs))] [] { vals := [(false, [.d (.v (.bool (zeroP (.mk 9 b n s i ks is rs))))])] } := by
 refine startW (tm := [(0, _)]) Tryz.func295 rfl Tryz.ntmps295 rfl rfl rfl rfl ?_
 repeat' (first
 |(with_reducible refine K_ca 340 ?_); refine zC (pbare_9 b n s i ks is rs) ?_
 |(with_reducible refine W_at ?_); (first
 |(with_reducible refine W.consA ?_)
 |(with_reducible refine W.nilA ?_))
 |refine wA ?_
 |(refine wC ?_ ?_ <;> intro hc)
 |refine wB ?_ ?_
 |(with_reducible refine JL.block ?_)
 |(with_reducible refine F_at ?_); refine eW (vs := [(_, _)]) Tryz.results295 ?_; (focus (repeat' (first | exact oA | refine oB ?_ | refine oC ?_ ?_ | fail)))
 |exact oM
 |fail)
 all_goals first
  | with_reducible rfl
  | (rw [zeroP_me]; simp only [ValD.kind, ValD.b, ValD.n, ValD.s, ValD.id, ValD.keys, ValD.items, ValD.rest] at *; simp_all; done)
  | trace_state
theorem pproper_fn (v : ValD) (h : 1 ≤ v.kind ∧ v.kind ≤ 9) : FnSound Tryz.prog 295 [.val true (valC v)] [] { vals := [(false, [.d (.v (.bool (zeroP v)))])] } := by
 obtain ⟨k, b, n, s, i, ks, is, rs⟩ := v
 have h' : 1 ≤ k ∧ k ≤ 9 := h
 have : k = 1 ∨ k = 2 ∨ k = 3 ∨ k = 4 ∨ k = 5 ∨ k = 6 ∨ k = 7 ∨ k = 8 ∨ k = 9 := by omega
 rcases this with rfl | rfl | rfl | rfl | rfl | rfl | rfl | rfl | rfl
 ·exact pproper_1 b n s i ks is rs
 ·exact pproper_2 b n s i ks is rs
 ·exact pproper_3 b n s i ks is rs
 ·exact pproper_4 b n s i ks is rs
 ·exact pproper_5 b n s i ks is rs
 ·exact pproper_6 b n s i ks is rs
 ·exact pproper_7 b n s i ks is rs
 ·exact pproper_8 b n s i ks is rs
 ·exact pproper_9 b n s i ks is rs
end Go.Proofs.YtjpdemikmdfonaaGreatDoor

