/- Rules of runs and contracts of functions, for the claims of one seat. -/
import Derived.Test.YtgehafnodibhpaaGreatDoorPA14
import Derived.Test.YtgehafnodibhpaaGreatDoorPA18
import Derived.Test.YtgehafnodibhpaaGreatDoorPA19
import Derived.Test.YtgehafnodibhpaaGreatDoorPA20
namespace Go.Proofs.YtgehafnodibhpaaGreatDoor
open Go Go.RowKit
set_option maxRecDepth 100000
set_option maxHeartbeats 8000000
set_option linter.unusedSimpArgs false
set_option linter.unusedVariables false
theorem rorder_fn (a b : Bool) : FnSound Tryz.prog 351 [.val false [.d (.v (.bool a))], .val false [.d (.v (.bool b))]] [] { vals := [(false, [.d (.v (.int .i64 (if b = true then 0 else if a = true then -1 else 1)))])] } := by
 refine startW (tm := [(0, _), (1, _)]) Tryz.func351 rfl Tryz.ntmps351 rfl rfl rfl rfl ?_
 repeat' (first
 |refine wA ?_
 |(refine wC ?_ ?_ <;> intro hc)
 |refine wB ?_ ?_
 |(with_reducible refine JL.block ?_)
 |(with_reducible refine F_at ?_); refine eW (vs := [(_, _)]) Tryz.results351 ?_; (focus (repeat' (first | exact oA | refine oB ?_ | refine oC ?_ ?_ | fail)))
 |exact oM
 |fail)
 all_goals first | rfl | (simp_all; done) | trace_state
theorem rzig_fn (n : Int) (h : -9223372036854775808 ≤ n ∧ n ≤ 9223372036854775807) : FnSound Tryz.prog 352 [.val false [.d (.v (.int .i64 n))]] [] { vals := [(false, [.d (.v (.int .u64 (zigP n)))])] } := by
 refine startW (tm := [(0, _)]) Tryz.func352 rfl Tryz.ntmps352 rfl rfl rfl rfl ?_
 repeat' (first
 |(with_reducible refine W_at ?_); (first
 |(refine W.negI rfl rfl ?_))
 |refine wA ?_
 |(refine wC ?_ ?_ <;> intro hc)
 |refine wB ?_ ?_
 |(with_reducible refine JL.block ?_)
 |(with_reducible refine F_at ?_); refine eW (vs := [(_, _)]) Tryz.results352 ?_; (focus (repeat' (first | exact oA | refine oB ?_ | refine oC ?_ ?_ | fail)))
 |exact oM
 |fail)
 all_goals first | rfl | (unfold zigP; rw [if_pos hc, wrap_u64 (by omega)]; done) | (unfold zigP; rw [if_neg hc, wrap_i64 (n := 0 - (n + 1)) (by omega), wrap_u64 (n := 0 - (n + 1)) (by omega), wrap_u64 (n := 2 * (0 - (n + 1))) (by omega), wrap_u64 (by omega)]; omega) | trace_state
theorem zeroP_mk {k : Int} {b : Bool} {n : Int} {s : ByteArray} {i : Int} {ks is : List ValD} {rs : List RawD} : zeroP (.mk k b n s i ks is rs) = ((decide (k = 1) || !b) && (decide (k = 2) || decide (n = 0)) && (decide (k = 3) || decide (s = ⟨#[]⟩)) && (decide (k = 4 ∨ k = 6) || decide (i = 0)) && (decide (k = 8) || decide ((ks.length : Int) = 0)) && (decide (5 ≤ k) || decide ((is.length : Int) = 0)) && (decide (k = 5 ∨ k = 6) || decide ((rs.length : Int) = 0))) := by
 have e : ∀ {α : Type} (l : List α), l.isEmpty = decide ((l.length : Int) = 0) := fun l => by
  cases l with
  | nil => rfl
  | cons x r => simp; omega
 unfold zeroP ValD.kind ValD.b ValD.n ValD.s ValD.id ValD.keys ValD.items ValD.rest
 simp only [e]
 rfl
theorem rzero_1 (b : Bool) (n : Int) (s : ByteArray) (i : Int) (ks is : List ValD) (rs : List RawD) : FnSound Tryz.prog 306 [.val true (valC (.mk 1 b n s i ks is rs))] [] { vals := [(false, [.d (.v (.bool (zeroP (.mk 1 b n s i ks is rs))))])] } := by
 refine startW (tm := [(0, _)]) Tryz.func306 rfl Tryz.ntmps306 rfl rfl rfl rfl ?_
 repeat' (first
 |(with_reducible refine W_at ?_); (first
 |(with_reducible refine W.consA ?_)
 |(with_reducible refine W.nilA ?_))
 |refine wA ?_
 |(refine wC ?_ ?_ <;> intro hc)
 |refine wB ?_ ?_
 |(with_reducible refine JL.block ?_)
 |(with_reducible refine F_at ?_); refine eW (vs := [(_, _)]) Tryz.results306 ?_; (focus (repeat' (first | exact oA | refine oB ?_ | refine oC ?_ ?_ | fail)))
 |exact oM
 |fail)
 all_goals first | rfl | (rw [zeroP_mk]; simp only [ValD.kind, ValD.b, ValD.n, ValD.s, ValD.id, ValD.keys, ValD.items, ValD.rest] at *; simp_all; done) | trace_state
theorem rzero_2 (b : Bool) (n : Int) (s : ByteArray) (i : Int) (ks is : List ValD) (rs : List RawD) : FnSound Tryz.prog 306 [.val true (valC (.mk 2 b n s i ks is rs))] [] { vals := [(false, [.d (.v (.bool (zeroP (.mk 2 b n s i ks is rs))))])] } := by
 refine startW (tm := [(0, _)]) Tryz.func306 rfl Tryz.ntmps306 rfl rfl rfl rfl ?_
 repeat' (first
 |(with_reducible refine W_at ?_); (first
 |(with_reducible refine W.consA ?_)
 |(with_reducible refine W.nilA ?_))
 |refine wA ?_
 |(refine wC ?_ ?_ <;> intro hc)
 |refine wB ?_ ?_
 |(with_reducible refine JL.block ?_)
 |(with_reducible refine F_at ?_); refine eW (vs := [(_, _)]) Tryz.results306 ?_; (focus (repeat' (first | exact oA | refine oB ?_ | refine oC ?_ ?_ | fail)))
 |exact oM
 |fail)
 all_goals first | rfl | (rw [zeroP_mk]; simp only [ValD.kind, ValD.b, ValD.n, ValD.s, ValD.id, ValD.keys, ValD.items, ValD.rest] at *; simp_all; done) | trace_state
theorem rzero_3 (b : Bool) (n : Int) (s : ByteArray) (i : Int) (ks is : List ValD) (rs : List RawD) : FnSound Tryz.prog 306 [.val true (valC (.mk 3 b n s i ks is rs))] [] { vals := [(false, [.d (.v (.bool (zeroP (.mk 3 b n s i ks is rs))))])] } := by
 refine startW (tm := [(0, _)]) Tryz.func306 rfl Tryz.ntmps306 rfl rfl rfl rfl ?_
 repeat' (first
 |(with_reducible refine W_at ?_); (first
 |(with_reducible refine W.consA ?_)
 |(with_reducible refine W.nilA ?_))
 |refine wA ?_
 |(refine wC ?_ ?_ <;> intro hc)
 |refine wB ?_ ?_
 |(with_reducible refine JL.block ?_)
 |(with_reducible refine F_at ?_); refine eW (vs := [(_, _)]) Tryz.results306 ?_; (focus (repeat' (first | exact oA | refine oB ?_ | refine oC ?_ ?_ | fail)))
 |exact oM
 |fail)
 all_goals first | rfl | (rw [zeroP_mk]; simp only [ValD.kind, ValD.b, ValD.n, ValD.s, ValD.id, ValD.keys, ValD.items, ValD.rest] at *; simp_all; done) | trace_state
theorem rzero_4 (b : Bool) (n : Int) (s : ByteArray) (i : Int) (ks is : List ValD) (rs : List RawD) : FnSound Tryz.prog 306 [.val true (valC (.mk 4 b n s i ks is rs))] [] { vals := [(false, [.d (.v (.bool (zeroP (.mk 4 b n s i ks is rs))))])] } := by
 refine startW (tm := [(0, _)]) Tryz.func306 rfl Tryz.ntmps306 rfl rfl rfl rfl ?_
 repeat' (first
 |(with_reducible refine W_at ?_); (first
 |(with_reducible refine W.consA ?_)
 |(with_reducible refine W.nilA ?_))
 |refine wA ?_
 |(refine wC ?_ ?_ <;> intro hc)
 |refine wB ?_ ?_
 |(with_reducible refine JL.block ?_)
 |(with_reducible refine F_at ?_); refine eW (vs := [(_, _)]) Tryz.results306 ?_; (focus (repeat' (first | exact oA | refine oB ?_ | refine oC ?_ ?_ | fail)))
 |exact oM
 |fail)
 all_goals first | rfl | (rw [zeroP_mk]; simp only [ValD.kind, ValD.b, ValD.n, ValD.s, ValD.id, ValD.keys, ValD.items, ValD.rest] at *; simp_all; done) | trace_state
theorem rzero_5 (b : Bool) (n : Int) (s : ByteArray) (i : Int) (ks is : List ValD) (rs : List RawD) : FnSound Tryz.prog 306 [.val true (valC (.mk 5 b n s i ks is rs))] [] { vals := [(false, [.d (.v (.bool (zeroP (.mk 5 b n s i ks is rs))))])] } := by
 refine startW (tm := [(0, _)]) Tryz.func306 rfl Tryz.ntmps306 rfl rfl rfl rfl ?_
 repeat' (first
 |(with_reducible refine W_at ?_); (first
 |(with_reducible refine W.consA ?_)
 |(with_reducible refine W.nilA ?_))
 |refine wA ?_
 |(refine wC ?_ ?_ <;> intro hc)
 |refine wB ?_ ?_
 |(with_reducible refine JL.block ?_)
 |(with_reducible refine F_at ?_); refine eW (vs := [(_, _)]) Tryz.results306 ?_; (focus (repeat' (first | exact oA | refine oB ?_ | refine oC ?_ ?_ | fail)))
 |exact oM
 |fail)
 all_goals first | rfl | (rw [zeroP_mk]; simp only [ValD.kind, ValD.b, ValD.n, ValD.s, ValD.id, ValD.keys, ValD.items, ValD.rest] at *; simp_all; done) | trace_state
theorem rzero_6 (b : Bool) (n : Int) (s : ByteArray) (i : Int) (ks is : List ValD) (rs : List RawD) : FnSound Tryz.prog 306 [.val true (valC (.mk 6 b n s i ks is rs))] [] { vals := [(false, [.d (.v (.bool (zeroP (.mk 6 b n s i ks is rs))))])] } := by
 refine startW (tm := [(0, _)]) Tryz.func306 rfl Tryz.ntmps306 rfl rfl rfl rfl ?_
 repeat' (first
 |(with_reducible refine W_at ?_); (first
 |(with_reducible refine W.consA ?_)
 |(with_reducible refine W.nilA ?_))
 |refine wA ?_
 |(refine wC ?_ ?_ <;> intro hc)
 |refine wB ?_ ?_
 |(with_reducible refine JL.block ?_)
 |(with_reducible refine F_at ?_); refine eW (vs := [(_, _)]) Tryz.results306 ?_; (focus (repeat' (first | exact oA | refine oB ?_ | refine oC ?_ ?_ | fail)))
 |exact oM
 |fail)
 all_goals first | rfl | (rw [zeroP_mk]; simp only [ValD.kind, ValD.b, ValD.n, ValD.s, ValD.id, ValD.keys, ValD.items, ValD.rest] at *; simp_all; done) | trace_state
theorem rzero_7 (b : Bool) (n : Int) (s : ByteArray) (i : Int) (ks is : List ValD) (rs : List RawD) : FnSound Tryz.prog 306 [.val true (valC (.mk 7 b n s i ks is rs))] [] { vals := [(false, [.d (.v (.bool (zeroP (.mk 7 b n s i ks is rs))))])] } := by
 refine startW (tm := [(0, _)]) Tryz.func306 rfl Tryz.ntmps306 rfl rfl rfl rfl ?_
 repeat' (first
 |(with_reducible refine W_at ?_); (first
 |(with_reducible refine W.consA ?_)
 |(with_reducible refine W.nilA ?_))
 |refine wA ?_
 |(refine wC ?_ ?_ <;> intro hc)
 |refine wB ?_ ?_
 |(with_reducible refine JL.block ?_)
 |(with_reducible refine F_at ?_); refine eW (vs := [(_, _)]) Tryz.results306 ?_; (focus (repeat' (first | exact oA | refine oB ?_ | refine oC ?_ ?_ | fail)))
 |exact oM
 |fail)
 all_goals first | rfl | (rw [zeroP_mk]; simp only [ValD.kind, ValD.b, ValD.n, ValD.s, ValD.id, ValD.keys, ValD.items, ValD.rest] at *; simp_all; done) | trace_state
theorem rzero_8 (b : Bool) (n : Int) (s : ByteArray) (i : Int) (ks is : List ValD) (rs : List RawD) : FnSound Tryz.prog 306 [.val true (valC (.mk 8 b n s i ks is rs))] [] { vals := [(false, [.d (.v (.bool (zeroP (.mk 8 b n s i ks is rs))))])] } := by
 refine startW (tm := [(0, _)]) Tryz.func306 rfl Tryz.ntmps306 rfl rfl rfl rfl ?_
 repeat' (first
 |(with_reducible refine W_at ?_); (first
 |(with_reducible refine W.consA ?_)
 |(with_reducible refine W.nilA ?_))
 |refine wA ?_
 |(refine wC ?_ ?_ <;> intro hc)
 |refine wB ?_ ?_
 |(with_reducible refine JL.block ?_)
 |(with_reducible refine F_at ?_); refine eW (vs := [(_, _)]) Tryz.results306 ?_; (focus (repeat' (first | exact oA | refine oB ?_ | refine oC ?_ ?_ | fail)))
 |exact oM
 |fail)
 all_goals first | rfl | (rw [zeroP_mk]; simp only [ValD.kind, ValD.b, ValD.n, ValD.s, ValD.id, ValD.keys, ValD.items, ValD.rest] at *; simp_all; done) | trace_state
theorem rzero_9 (b : Bool) (n : Int) (s : ByteArray) (i : Int) (ks is : List ValD) (rs : List RawD) : FnSound Tryz.prog 306 [.val true (valC (.mk 9 b n s i ks is rs))] [] { vals := [(false, [.d (.v (.bool (zeroP (.mk 9 b n s i ks is rs))))])] } := by
 refine startW (tm := [(0, _)]) Tryz.func306 rfl Tryz.ntmps306 rfl rfl rfl rfl ?_
 repeat' (first
 |(with_reducible refine W_at ?_); (first
 |(with_reducible refine W.consA ?_)
 |(with_reducible refine W.nilA ?_))
 |refine wA ?_
 |(refine wC ?_ ?_ <;> intro hc)
 |refine wB ?_ ?_
 |(with_reducible refine JL.block ?_)
 |(with_reducible refine F_at ?_); refine eW (vs := [(_, _)]) Tryz.results306 ?_; (focus (repeat' (first | exact oA | refine oB ?_ | refine oC ?_ ?_ | fail)))
 |exact oM
 |fail)
 all_goals first | rfl | (rw [zeroP_mk]; simp only [ValD.kind, ValD.b, ValD.n, ValD.s, ValD.id, ValD.keys, ValD.items, ValD.rest] at *; simp_all; done) | trace_state
theorem rzero_fn (v : ValD) (h : 1 ≤ v.kind ∧ v.kind ≤ 9) : FnSound Tryz.prog 306 [.val true (valC v)] [] { vals := [(false, [.d (.v (.bool (zeroP v)))])] } := by
 obtain ⟨k, b, n, s, i, ks, is, rs⟩ := v
 have h' : 1 ≤ k ∧ k ≤ 9 := h
 have : k = 1 ∨ k = 2 ∨ k = 3 ∨ k = 4 ∨ k = 5 ∨ k = 6 ∨ k = 7 ∨ k = 8 ∨ k = 9 := by omega
 rcases this with rfl | rfl | rfl | rfl | rfl | rfl | rfl | rfl | rfl
 ·exact rzero_1 b n s i ks is rs
 ·exact rzero_2 b n s i ks is rs
 ·exact rzero_3 b n s i ks is rs
 ·exact rzero_4 b n s i ks is rs
 ·exact rzero_5 b n s i ks is rs
 ·exact rzero_6 b n s i ks is rs
 ·exact rzero_7 b n s i ks is rs
 ·exact rzero_8 b n s i ks is rs
 ·exact rzero_9 b n s i ks is rs
end Go.Proofs.YtgehafnodibhpaaGreatDoor

namespace Go.Proofs.YtgehafnodibhpaaGreatDoor
open Go Go.RowKit
set_option maxRecDepth 100000
set_option maxHeartbeats 8000000
set_option linter.unusedSimpArgs false
set_option linter.unusedVariables false
theorem rcompare_fn (a b : ValD) (ha : -9223372036854775808 ≤ a.n ∧ a.n ≤ 9223372036854775807) (hb : -9223372036854775808 ≤ b.n ∧ b.n ≤ 9223372036854775807) : FnSound Tryz.prog 312 [.val true (valC a), .val true (valC b)] [] { vals := [(false, [.d (.v (.int .i64 (cmpV a b)))])] } := by
 refine startW (tm := [(0, _), (1, _)]) Tryz.func312 rfl Tryz.ntmps312 rfl rfl rfl rfl ?_
 repeat' (first
 |(with_reducible refine K_ca 351 ?_); refine zC (rorder_fn _ _) ?_
 |(with_reducible refine K_ca 352 ?_); (first
 |refine zC (rzig_fn _ ha) ?_
 |refine zC (rzig_fn _ hb) ?_)
 |refine wA ?_
 |(refine wC ?_ ?_ <;> intro hc)
 |refine wB ?_ ?_
 |(with_reducible refine JL.block ?_)
 |(with_reducible refine F_at ?_); refine eW (vs := [(_, _)]) Tryz.results312 ?_; (focus (repeat' (first | exact oA | refine oB ?_ | refine oC ?_ ?_ | fail)))
 |exact oM
 |fail)
 all_goals first | rfl | (unfold cmpV; simp_all; done) | (unfold cmpV zigP; simp only [decide_eq_true_eq, Bool.false_eq_true, if_false]; (repeat' split) <;> first | rfl | omega | contradiction | (exfalso; omega)) | trace_state
end Go.Proofs.YtgehafnodibhpaaGreatDoor

namespace Go.Proofs.YtgehafnodibhpaaGreatDoor
open Go Go.RowKit
set_option maxRecDepth 100000
set_option maxHeartbeats 8000000
set_option linter.unusedSimpArgs false
set_option linter.unusedVariables false
structure SchOk (l : List TypD) : Prop where
 sm : smTs l
 ok : schemaErr l = 0
theorem rrest_nil (t : TypD) (r : List RawD) (h : r = []) : FnSound Tryz.prog 309 [.val true (typC t), .val false [.d (.sl 2 (dRaws r))]] [] { vals := [(false, [.d (.v (.bool true))])] } := by
 refine startW (tm := [(0, _), (1, _)]) Tryz.func309 rfl Tryz.ntmps309 rfl rfl rfl rfl ?_
 repeat' (first
 |(with_reducible refine rgn 4 400 ?_ ?_); exact rfl
 |(with_reducible refine rgn 5 500 ?_ ?_); exact rfl
 |(with_reducible refine rgn 6 600 ?_ ?_); exact rfl
 |(with_reducible refine rgn 3 700 ?_ ?_); exact rfl
 |(with_reducible refine blk_at (id := 0) ?_); ((with_reducible refine JL.loopW 0 299 (fun (k : Nat) tm => (5, .one false [.d (.v (.int .i64 ((k : Int))))]) :: tm) (fun (k : Nat) bo => bo) (fun (k : Nat) => k = 0) (fun (k : Nat) => 1 - k) (0) ?_ (fun k hk => ?_) ?_); (focus (apply SubW [] rfl ?_ ?_ rfl ?_; (repeat' (first | exact kA | refine kB ?_ | refine kC ?_ ?_ | exact kD | fail)))))
 |((with_reducible refine round_next (i := k) (k + 1) ?_ ?_ ?_); (focus (apply SubW [] rfl ?_ ?_ rfl ?_; (repeat' (first | exact kA | refine kB ?_ | refine kC ?_ ?_ | exact kD | fail)))))
 |refine wA ?_
 |(refine wC ?_ ?_ <;> intro hc)
 |refine wB ?_ ?_
 |(with_reducible refine JL.block ?_)
 |(with_reducible refine F_at ?_); refine eW (vs := [(_, _)]) Tryz.results309 ?_; (focus (repeat' (first | exact oA | refine oB ?_ | refine oC ?_ ?_ | fail)))
 |exact oM
 |fail)
 all_goals first | rfl | omega | (exfalso; have h2 : r.length = 0 := (by rw [h]; rfl); omega) | trace_state
theorem all_no {α : Type} {l : List α} {p : α → Bool} {d : α} {j : Nat} (hj : j < l.length) (h : p (l.getD j d) = false) : l.all p = false := by
 rw [List.all_eq_false]
 exact ⟨l.getD j d, by simp [List.getD, hj], by rw [h]; decide⟩
theorem all_yes {α : Type} {l : List α} {p : α → Bool} {d : α} (h : ∀ j, j < l.length → p (l.getD j d) = true) : l.all p = true := by
 rw [List.all_eq_true]
 intro x hx
 obtain ⟨j, hj, rfl⟩ := List.getElem_of_mem hx
 have := h j hj
 simpa [List.getD, hj] using this
theorem rall_fn (l : List TypD) (t : Int) (vs : List ValD) (hl : vs.length ≤ 5900000000000) (ih : ∀ k, k < vs.length → FnSound Tryz.prog 257 [.val true (schC l), .val false [.d (.v (.int .i64 t))], .val true (valC (vs.getD k nilV)), .val false [.d (.v (.bool true))]] [] { vals := [(false, [.d (.v (.bool (plainP l t (vs.getD k nilV))))])] }) :
    FnSound Tryz.prog 311 [.val true (schC l), .val false [.d (.v (.int .i64 t))], .val false [.d (.sl 8 (dVals vs))], .val false [.d (.v (.bool true))]] [] { vals := [(false, [.d (.v (.bool (plainAll l t vs)))])] } := by
 rw [plainAll_eq]
 refine startW (tm := [(0, _), (1, _), (2, _), (3, _)]) Tryz.func311 rfl Tryz.ntmps311 rfl rfl rfl rfl ?_
 repeat' (first
 |(with_reducible refine rgn 4 400 ?_ ?_); exact rfl
 |(with_reducible refine rgn 5 500 ?_ ?_); exact rfl
 |(with_reducible refine rgn 3 600 ?_ ?_); exact rfl
 |(with_reducible refine K_ca 257 ?_); (first
 |refine W.call0A rfl BoC.h (ih _ (by omega)) rfl rfl rfl ?_
 |refine W.call1A rfl BoC.h (ih _ (by omega)) rfl rfl rfl rfl rfl ?_)
 |(with_reducible refine blk_at (id := 0) ?_); ((with_reducible refine JL.loopW 0 299 (fun (k : Nat) tm => (9, .one false [.d (.v (.int .i64 ((k : Int))))]) :: tm) (fun (k : Nat) bo => bo) (fun (k : Nat) => k ≤ vs.length ∧ ∀ j, j < k → plainP l t (vs.getD j nilV) = true) (fun (k : Nat) => vs.length - k) (0) ?_ (fun k hk => ?_) ?_); (focus (apply SubW [] rfl ?_ ?_ rfl ?_; (repeat' (first | exact kA | refine kB ?_ | refine kC ?_ ?_ | exact kD | fail)))))
 |((with_reducible refine round_next (i := k) (k + 1) ?_ ?_ ?_); (focus (apply SubW [] rfl ?_ ?_ rfl ?_; (repeat' (first | exact kA | refine kB ?_ | refine kC ?_ ?_ | exact kD | fail)))))
 |refine wA ?_
 |(refine wC ?_ ?_ <;> intro hc)
 |refine wB ?_ ?_
 |(with_reducible refine JL.block ?_)
 |(with_reducible refine F_at ?_); refine eW (vs := [(_, _)]) Tryz.results311 ?_; (focus (repeat' (first | exact oA | refine oB ?_ | refine oC ?_ ?_ | fail)))
 |exact oM
 |fail)
 all_goals first
  | rfl
  | omega
  | exact ⟨Nat.zero_le _, fun j hj => absurd hj (Nat.not_lt_zero j)⟩
  | exact ⟨by omega, lt_next hk.2 (by simpa using hc)⟩
  | exact (all_no (j := k) (d := nilV) (by omega) (nt hc)).symm
  | exact (all_yes (d := nilV) (fun j hj => hk.2 j (by omega))).symm
  | trace_state
end Go.Proofs.YtgehafnodibhpaaGreatDoor

namespace Go.Proofs.YtgehafnodibhpaaGreatDoor
open Go Go.RowKit
set_option maxRecDepth 100000
set_option maxHeartbeats 8000000
set_option linter.unusedSimpArgs false
set_option linter.unusedVariables false
theorem eqRaw_nil (r : List RawD) : FnSound Tryz.prog 339 [.val false [.d (.sl 2 (dRaws r))], .val false [.zero]] [] { vals := [(false, [.d (.v (.bool r.isEmpty))])] } := by
 refine startW (tm := [(0, _), (1, _)]) Tryz.func339 rfl Tryz.ntmps339 rfl rfl rfl rfl ?_
 repeat' (first
 |(with_reducible refine blk_at (id := 0) ?_); ((with_reducible refine JL.loopW 0 499 (fun (k : Nat) tm => (13, .one false [.d (.v (.int .i64 ((k : Int))))]) :: tm) (fun (k : Nat) bo => bo) (fun (k : Nat) => k ≤ r.length ∧ r = []) (fun (k : Nat) => r.length - k) (0) ?_ (fun k hk => ?_) ?_); (focus (apply SubW [] rfl ?_ ?_ rfl ?_; (repeat' (first | exact kA | refine kB ?_ | refine kC ?_ ?_ | exact kD | fail)))))
 |((with_reducible refine round_next (i := k) (k + 1) ?_ ?_ ?_); (focus (apply SubW [] rfl ?_ ?_ rfl ?_; (repeat' (first | exact kA | refine kB ?_ | refine kC ?_ ?_ | exact kD | fail)))))
 |refine wA ?_
 |(refine wC ?_ ?_ <;> intro hc)
 |refine wB ?_ ?_
 |(with_reducible refine JL.block ?_)
 |(with_reducible refine F_at ?_); refine eW (vs := [(_, _)]) Tryz.results339 ?_; (focus (repeat' (first | exact oA | refine oB ?_ | refine oC ?_ ?_ | fail)))
 |exact oM
 |fail)
 all_goals first
  | rfl
  | omega
  | (rw [hk.2]; rfl)
  | exact ⟨Nat.zero_le _, List.length_eq_zero_iff.1 (by omega)⟩
  | (exfalso; rw [hk.2] at hc; simp at hc; done)
  | (cases r with
     | nil => exact absurd rfl hc
     | cons x r => rfl)
  | trace_state
theorem eqVals_nil (l : List ValD) (F : FuncId) : FnSound Tryz.prog 340 [.val false [.d (.sl 8 (dVals l))], .val false [.zero], .val false [.d (.v (.func (.func F) #[] #[]))]] [] { vals := [(false, [.d (.v (.bool l.isEmpty))])] } := by
 refine startW (tm := [(0, _), (1, _), (2, _)]) Tryz.func340 rfl Tryz.ntmps340 rfl rfl rfl rfl ?_
 repeat' (first
 |(with_reducible refine blk_at (id := 0) ?_); ((with_reducible refine JL.loopW 0 499 (fun (k : Nat) tm => (17, .one false [.d (.v (.int .i64 ((k : Int))))]) :: tm) (fun (k : Nat) bo => bo) (fun (k : Nat) => k ≤ l.length ∧ l = []) (fun (k : Nat) => l.length - k) (0) ?_ (fun k hk => ?_) ?_); (focus (apply SubW [] rfl ?_ ?_ rfl ?_; (repeat' (first | exact kA | refine kB ?_ | refine kC ?_ ?_ | exact kD | fail)))))
 |((with_reducible refine round_next (i := k) (k + 1) ?_ ?_ ?_); (focus (apply SubW [] rfl ?_ ?_ rfl ?_; (repeat' (first | exact kA | refine kB ?_ | refine kC ?_ ?_ | exact kD | fail)))))
 |refine wA ?_
 |(refine wC ?_ ?_ <;> intro hc)
 |refine wB ?_ ?_
 |(with_reducible refine JL.block ?_)
 |(with_reducible refine F_at ?_); refine eW (vs := [(_, _)]) Tryz.results340 ?_; (focus (repeat' (first | exact oA | refine oB ?_ | refine oC ?_ ?_ | fail)))
 |exact oM
 |fail)
 all_goals first
  | rfl
  | omega
  | (rw [hk.2]; rfl)
  | exact ⟨Nat.zero_le _, List.length_eq_zero_iff.1 (by omega)⟩
  | (exfalso; rw [hk.2] at hc; simp at hc; done)
  | (cases l with
     | nil => exact absurd rfl hc
     | cons x r => rfl)
  | trace_state
theorem psame0_fn (v : ValD) : FnSound Tryz.prog 319 [.val true (valC v), .val true zeroC] [] { vals := [(false, [.d (.v (.bool (blankP v)))])] } := by
 refine startW (tm := [(0, _), (1, _)]) Tryz.func319 rfl Tryz.ntmps319 rfl rfl rfl rfl ?_
 repeat' (first
 |(with_reducible refine K_ca 339 ?_); refine zC (eqRaw_nil _) ?_
 |(with_reducible refine K_ca 340 ?_); refine zC (eqVals_nil _ _) ?_
 |(with_reducible refine W_at ?_); (first
 |(with_reducible refine W.consA ?_)
 |(with_reducible refine W.nilA ?_))
 |refine wA ?_
 |(refine wC ?_ ?_ <;> intro hc)
 |refine wB ?_ ?_
 |(with_reducible refine JL.block ?_)
 |(with_reducible refine F_at ?_); refine eW (vs := [(_, _)]) Tryz.results319 ?_; (focus (repeat' (first | exact oA | refine oB ?_ | refine oC ?_ ?_ | fail)))
 |exact oM
 |fail)
 all_goals first
  | rfl
  | (unfold blankP; simp_all; done)
  | trace_state
theorem pblank_fn (v : ValD) : FnSound Tryz.prog 315 [.val true (valC v)] [] { vals := [(false, [.d (.v (.bool (blankP v)))])] } := by
 refine startW (tm := [(0, _)]) Tryz.func315 rfl Tryz.ntmps315 rfl rfl rfl rfl ?_
 repeat' (first
 |(with_reducible refine K_ca 319 ?_); refine zC (psame0_fn v) ?_
 |refine wA ?_
 |(refine wC ?_ ?_ <;> intro hc)
 |refine wB ?_ ?_
 |(with_reducible refine JL.block ?_)
 |(with_reducible refine F_at ?_); refine eW (vs := [(_, _)]) Tryz.results315 ?_; (focus (repeat' (first | exact oA | refine oB ?_ | refine oC ?_ ?_ | fail)))
 |exact oM
 |fail)
 all_goals first | rfl | trace_state
theorem memQ_next {l : List MemD} {k : Nat} (h : k < l.length) : (l.take (k + 1)).map (·.id) = (l.take k).map (·.id) ++ [(l.getD k nilM0).id] ∧ (l.take (k + 1)).map (·.name) = (l.take k).map (·.name) ++ [(l.getD k nilM0).name] := by
 rw [List.take_add_one, List.map_append, List.map_append]
 simp [List.getD, h]
theorem memQ_ids (l : List MemD) : l.map (·.id) = idsQ (memQ l) ∧ l.map (·.name) = nmsQ (memQ l) := by
 unfold idsQ nmsQ memQ
 rw [List.map_map, List.map_map]
 exact ⟨rfl, rfl⟩
theorem mems_all {rec : Bool} {l : List MemD} {i : Nat} (hi : ∀ j, j < i → memP rec (l.getD j nilM0) = true) (he : l.length ≤ i) : l.all (memP rec) = true := all_yes (d := nilM0) (fun j hj => hi j (by omega))
theorem pmems_end {rec : Bool} {l : List MemD} {i : Nat} (hi : ∀ j, j < i → memP rec (l.getD j nilM0) = true) (he : l.length ≤ i) (h : rec = true ∨ 0 < (l.length : Int)) : (leftQ (memQ l) 0 && decide (((memQ l).length : Int) ≤ 16)) = memsP rec l := by
 rw [mems_eq, mems_all hi he, memQ_len]
 have e : (rec || decide (l ≠ [])) = true := by
  rcases h with h | h
  ·rw [h]; rfl
  ·rw [decide_eq_true (show l ≠ [] from fun e => by rw [e] at h; simp at h), Bool.or_true]
 rw [e]
 simp only [Bool.true_and]
 congr 1
 exact decide_eq_decide.2 (by omega)
theorem pmems_none {l : List MemD} (h : ¬ 0 < (l.length : Int)) : false = memsP false l := by
 obtain rfl : l = [] := List.length_eq_zero_iff.1 (by omega)
 rfl
theorem pmembers_fn (t : TypD) (hl : t.mems.length ≤ 5900000000000) (hk : t.kind = 5 ∨ t.kind = 6) : FnSound Tryz.prog 264 [.val true (typC t)] [] { vals := [(false, [.d (.v (.bool (memsP (decide (t.kind = 5)) t.mems)))])] } := by
 have hq := memQ_len t.mems
 have hm1 : ∀ k, ((t.mems.take k).map (·.id)).length = (t.mems.take k).length := fun k => List.length_map _
 have hm2 : ∀ k, ((t.mems.take k).map (·.name)).length = (t.mems.take k).length := fun k => List.length_map _
 have hc9 : ∀ i, t.mems.length ≤ i → FnSound Tryz.prog 314 [.val false [.d (.sl 1 (dInts ((t.mems.take i).map (·.id))))], .val false [.d (.sl 1 (dStrs ((t.mems.take i).map (·.name))))]] [] { vals := [(false, [.d (.v (.bool (leftQ (memQ t.mems) 0 && decide (((memQ t.mems).length : Int) ≤ 16))))])] } := fun i h => by
  have hc9 := pids_fn (memQ t.mems) (by omega)
  rw [List.take_of_length_le h, (memQ_ids t.mems).1, (memQ_ids t.mems).2]
  exact hc9
 refine startW (tm := [(0, _)]) Tryz.func264 rfl Tryz.ntmps264 rfl rfl rfl rfl ?_
 repeat' (first
 |(with_reducible refine rgL (fun g => g == 314) ?_ ?_); exact rfl
 |(with_reducible refine K_ca 315 ?_); refine zC (pblank_fn _) ?_
 |(with_reducible refine K_ca 314 ?_); refine zC (hc9 i (by omega)) ?_
 |(with_reducible refine W_at ?_); (first
 |(with_reducible refine W.consA ?_)
 |(with_reducible refine W.nilA ?_))
 |(with_reducible refine blk_at (id := 0) ?_); (try (refine JL.zeroW 3 _ 3 1 rfl rfl ?_)); (refine JL.rekW 3 (1048, 451) rfl rfl rfl rfl ?_); (try (refine JL.zeroW 4 _ 9 1 rfl rfl ?_)); (refine JL.rekW 4 (1064, 453) rfl rfl rfl rfl ?_); ((with_reducible refine JL.loopW 0 499 (fun (i : Nat) tm => (10, .one false [.d (.v (.int .i64 ((i : Int))))]) :: (3, .one false [.own (1048, 451)]) :: (4, .one false [.own (1064, 453)]) :: tm) (fun (i : Nat) bo => ((1048, 451), some (.sl 3 1 ((dInts ((t.mems.take i).map (·.id)))))) :: ((1064, 453), some (.sl 9 1 ((dStrs ((t.mems.take i).map (·.name)))))) :: bo) (fun (i : Nat) => i ≤ t.mems.length ∧ ∀ j, j < i → memP (decide (t.kind = 5)) (t.mems.getD j nilM0) = true) (fun (i : Nat) => t.mems.length - i) (0) ?_ (fun i hi => have h1 := hm1 i; have h2 := hm2 i; have h3 := List.length_take (i := i) (l := t.mems); ?_) ?_); (focus (apply SubW [((1048, 451), _), ((1064, 453), _)] rfl ?_ ?_ rfl ?_; (repeat' (first | exact kA | refine kB ?_ | refine kC ?_ ?_ | exact kD | fail)))))
 |((with_reducible refine round_next (i := i) (i + 1) ?_ ?_ ?_); (focus (apply SubW [((1048, 451), _), ((1064, 453), _)] rfl ?_ ?_ rfl ?_; (repeat' (first | exact kA | refine kB ?_ | refine kC ?_ ?_ | exact kD | fail)))))
 |refine wA ?_
 |(refine wC ?_ ?_ <;> intro hc)
 |refine wB ?_ ?_
 |(with_reducible refine JL.block ?_)
 |(with_reducible refine F_at ?_); refine eW (vs := [(_, _)]) Tryz.results264 ?_; (focus (repeat' (first | exact oA | refine oB ?_ | refine oC ?_ ?_ | fail)))
 |exact oM
 |fail)
 all_goals first
  | with_reducible rfl
  | omega
  | exact ⟨Nat.zero_le _, fun j hj => absurd hj (Nat.not_lt_zero j)⟩
  | rfl
  | (rw [(memQ_next (by omega)).1]; done)
  | (rw [(memQ_next (by omega)).2]; done)
  | (refine mems_bad (i := i) (by omega) ?_; unfold memP; simp_all; done)
  | (refine ⟨by omega, lt_next hi.2 ?_⟩; unfold memP; simp_all; done)
  | exact pmems_end hi.2 (by omega) (.inl (decide_eq_true (by assumption)))
  | exact pmems_end hi.2 (by omega) (.inr (by omega))
  | (rw [decide_eq_false (by assumption)]; exact pmems_none (by omega))
  | trace_state
end Go.Proofs.YtgehafnodibhpaaGreatDoor

namespace Go.Proofs.YtgehafnodibhpaaGreatDoor
open Go Go.RowKit
set_option maxRecDepth 100000
set_option maxHeartbeats 8000000
set_option linter.unusedSimpArgs false
set_option linter.unusedVariables false
def accF (f : Nat → Int) (n : Int) : Nat → Int
 | 0 => n
 | k + 1 => IntKind.i64.wrap (accF f n k + f k)
def accR (rs : List RawD) (n : Int) : Nat → Int
 | 0 => n
 | k + 1 => IntKind.i64.wrap (IntKind.i64.wrap (accR rs n k + 1) + ((rs.getD k nilRa).data.size : Int))
theorem rsize1 (v : ValD) (hl : v.keys.length ≤ 5900000000000 ∧ v.items.length ≤ 5900000000000 ∧ v.rest.length ≤ 5900000000000) (f g : Nat → Int) (hf : ∀ k, k < v.keys.length → FnSound Tryz.prog 51 [.val true (valC (v.keys.getD k nilV))] [] { vals := [(false, [.d (.v (.int .i64 (f k)))])] })
    (hg : ∀ k, k < v.items.length → FnSound Tryz.prog 51 [.val true (valC (v.items.getD k nilV))] [] { vals := [(false, [.d (.v (.int .i64 (g k)))])] }) :
    FnSound Tryz.prog 51 [.val true (valC v)] [] { vals := [(false, [.d (.v (.int .i64 (accR v.rest (accF g (accF f (IntKind.i64.wrap (1 + (v.s.size : Int))) v.keys.length) v.items.length) v.rest.length)))])] } := by
 refine startW (tm := [(0, _)]) Tryz.func51 rfl Tryz.ntmps51 rfl rfl rfl rfl ?_
 repeat' (first
 |(with_reducible refine rgn 5 500 ?_ ?_); exact rfl
 |(with_reducible refine rgn 4 600 ?_ ?_); exact rfl
 |(with_reducible refine rgn 9 900 ?_ ?_); exact rfl
 |(with_reducible refine rgn 8 1000 ?_ ?_); exact rfl
 |(with_reducible refine rgn 13 1300 ?_ ?_); exact rfl
 |(with_reducible refine rgn 12 1400 ?_ ?_); exact rfl
 |(with_reducible refine K_ca 51 ?_); (first
 |refine W.call0A rfl BoC.h (hf _ (by omega)) rfl rfl rfl ?_
 |refine W.call1A rfl BoC.h (hf _ (by omega)) rfl rfl rfl rfl rfl ?_
 |refine W.call0A rfl BoC.h (hg _ (by omega)) rfl rfl rfl ?_
 |refine W.call1A rfl BoC.h (hg _ (by omega)) rfl rfl rfl rfl rfl ?_)
 |(with_reducible refine blk_at (id := 0) ?_); ((with_reducible refine JL.loopW 0 399 (fun (i : Nat) tm => (4, .one false [.d (.v (.int .i64 ((i : Int))))]) :: (3, .one false [.d (.v (.int .i64 ((accF f (IntKind.i64.wrap (1 + (v.s.size : Int))) i))))]) :: tm) (fun (i : Nat) bo => bo) (fun (i : Nat) => i ≤ v.keys.length) (fun (i : Nat) => v.keys.length - i) (0) ?_ (fun i hi => ?_) ?_); (focus (apply SubW [] rfl ?_ ?_ rfl ?_; (repeat' (first | exact kA | refine kB ?_ | refine kC ?_ ?_ | exact kD | fail)))))
 |((with_reducible refine round_next (i := i) (i + 1) ?_ ?_ ?_); (focus (apply SubW [] rfl ?_ ?_ rfl ?_; (repeat' (first | exact kA | refine kB ?_ | refine kC ?_ ?_ | exact kD | fail)))))
 |(with_reducible refine blk_at (id := 2) ?_); ((with_reducible refine JL.loopW 2 799 (fun (j : Nat) tm => (5, .one false [.d (.v (.int .i64 ((j : Int))))]) :: (3, .one false [.d (.v (.int .i64 ((accF g (accF f (IntKind.i64.wrap (1 + (v.s.size : Int))) v.keys.length) j))))]) :: tm) (fun (j : Nat) bo => bo) (fun (j : Nat) => j ≤ v.items.length) (fun (j : Nat) => v.items.length - j) (0) ?_ (fun j hj => ?_) ?_); (focus (apply SubW [] rfl ?_ ?_ rfl ?_; (repeat' (first | exact kA | refine kB ?_ | refine kC ?_ ?_ | exact kD | fail)))))
 |((with_reducible refine round_next (i := j) (j + 1) ?_ ?_ ?_); (focus (apply SubW [] rfl ?_ ?_ rfl ?_; (repeat' (first | exact kA | refine kB ?_ | refine kC ?_ ?_ | exact kD | fail)))))
 |(with_reducible refine blk_at (id := 4) ?_); ((with_reducible refine JL.loopW 4 1199 (fun (k : Nat) tm => (6, .one false [.d (.v (.int .i64 ((k : Int))))]) :: (3, .one false [.d (.v (.int .i64 ((accR v.rest (accF g (accF f (IntKind.i64.wrap (1 + (v.s.size : Int))) v.keys.length) v.items.length) k))))]) :: tm) (fun (k : Nat) bo => bo) (fun (k : Nat) => k ≤ v.rest.length) (fun (k : Nat) => v.rest.length - k) (0) ?_ (fun k hk => ?_) ?_); (focus (apply SubW [] rfl ?_ ?_ rfl ?_; (repeat' (first | exact kA | refine kB ?_ | refine kC ?_ ?_ | exact kD | fail)))))
 |((with_reducible refine round_next (i := k) (k + 1) ?_ ?_ ?_); (focus (apply SubW [] rfl ?_ ?_ rfl ?_; (repeat' (first | exact kA | refine kB ?_ | refine kC ?_ ?_ | exact kD | fail)))))
 |refine wA ?_
 |(refine wC ?_ ?_ <;> intro hc)
 |refine wB ?_ ?_
 |(with_reducible refine JL.block ?_)
 |(with_reducible refine F_at ?_); refine eW (vs := [(_, _)]) Tryz.results51 ?_; (focus (repeat' (first | exact oA | refine oB ?_ | refine oC ?_ ?_ | fail)))
 |exact oM
 |fail)
 all_goals first
  | rfl
  | omega
  | (have e : i = v.keys.length := by omega
     rw [e]; rfl)
  | (have e : j = v.items.length := by omega
     rw [e]; rfl)
  | (have e : k = v.rest.length := by omega
     rw [e]; done)
  | trace_state
theorem some_fn {F : FuncId} {l : List ValD} (h : ∀ k, k < l.length → ∃ n : Int, FnSound Tryz.prog F [.val true (valC (l.getD k nilV))] [] { vals := [(false, [.d (.v (.int .i64 n))])] }) : ∃ f : Nat → Int, ∀ k, k < l.length → FnSound Tryz.prog F [.val true (valC (l.getD k nilV))] [] { vals := [(false, [.d (.v (.int .i64 (f k)))])] } :=
 ⟨fun k => if h1 : k < l.length then Classical.choose (h k h1) else 0, fun k hk => by simp only [dif_pos hk]; exact Classical.choose_spec (h k hk)⟩
mutual
theorem size_ex : ∀ v : ValD, smV v → ∃ n : Int, FnSound Tryz.prog 51 [.val true (valC v)] [] { vals := [(false, [.d (.v (.int .i64 n))])] }
 | .mk k b n s i ks is rs, h => by
  unfold smV at h
  obtain ⟨f, hf⟩ := some_fn (l := ks) (fun j hj => size_exs ks h.2.1 j _ (getD_eq hj))
  obtain ⟨g, hg⟩ := some_fn (l := is) (fun j hj => size_exs is h.2.2 j _ (getD_eq hj))
  exact ⟨_, rsize1 (.mk k b n s i ks is rs) ⟨h.1.1, h.1.2.1, h.1.2.2.1⟩ f g hf hg⟩
theorem size_exs : ∀ l : List ValD, smVs l → ∀ (j : Nat) (v : ValD), l[j]? = some v → ∃ n : Int, FnSound Tryz.prog 51 [.val true (valC v)] [] { vals := [(false, [.d (.v (.int .i64 n))])] }
 | [], _, j, v, hv => by simp at hv
 | x :: r, h, j, v, hv => by
  unfold smVs at h
  match j with
  | 0 => simp at hv; subst hv; exact size_ex x h.1
  | j + 1 => exact size_exs r h.2 j v (by simpa using hv)
end
def accM (f : Nat → Int) (ms : List MemD) (n : Int) : Nat → Int
 | 0 => n
 | k + 1 => IntKind.i64.wrap (IntKind.i64.wrap (accM f ms n k + f k) + ((ms.getD k nilM0).name.size : Int))
def accT0 (t : TypD) (n : Int) : Int := IntKind.i64.wrap (IntKind.i64.wrap (IntKind.i64.wrap (n + (t.mems.length : Int)) + (t.syms.length : Int)) + (t.name.size : Int))
def accT (f : Nat → Nat → Int) (l : List TypD) : Nat → Int
 | 0 => 0
 | i + 1 => accM (f i) (l.getD i nilT0).mems (accT0 (l.getD i nilT0) (accT f l i)) (min 100 (l.getD i nilT0).mems.length)
theorem rfew7 (l : List TypD) (hs : smTs l) (f : Nat → Nat → Int) (hf : ∀ i k, i < l.length → k < (l.getD i nilT0).mems.length → FnSound Tryz.prog 51 [.val true (valC ((l.getD i nilT0).mems.getD k nilM0).dflt)] [] { vals := [(false, [.d (.v (.int .i64 (f i k)))])] }) :
    FnSound Tryz.prog 21 [.val true (schC l)] [] { vals := [(false, [.d (.v (.bool (decide (l.length ≤ 40 ∧ accT f l l.length ≤ 400))))])] } := by
 obtain ⟨hl, ht⟩ := hs
 have hm := fun i (h : i < l.length) => (ht i h).1
 refine startW (tm := [(0, _)]) Tryz.func21 rfl Tryz.ntmps21 rfl rfl rfl rfl ?_
 repeat' (first
 |(with_reducible refine rgn 7 700 ?_ ?_); exact rfl
 |(with_reducible refine rgn 8 800 ?_ ?_); exact rfl
 |(with_reducible refine rgn 9 900 ?_ ?_); exact rfl
 |(with_reducible refine rgn 10 1000 ?_ ?_); exact rfl
 |(with_reducible refine rgn 12 1100 ?_ ?_); exact rfl
 |(with_reducible refine rgn 6 1300 ?_ ?_); exact rfl
 |(with_reducible refine K_ca 51 ?_); (first
 |refine W.call0A rfl BoC.h (hf _ _ (by omega) (by omega)) rfl rfl rfl ?_
 |refine W.call1A rfl BoC.h (hf _ _ (by omega) (by omega)) rfl rfl rfl rfl rfl ?_)
 |(with_reducible refine blk_at (id := 0) ?_); ((with_reducible refine JL.loopW 0 599 (fun (i : Nat) tm => (4, .one false [.d (.v (.int .i64 ((i : Int))))]) :: (3, .one false [.d (.v (.int .i64 ((accT f l i))))]) :: tm) (fun (i : Nat) bo => bo) (fun (i : Nat) => i ≤ l.length) (fun (i : Nat) => l.length - i) (0) ?_ (fun i hi => have hmi := hm i; ?_) ?_); (focus (apply SubW [] rfl ?_ ?_ rfl ?_; (repeat' (first | exact kA | refine kB ?_ | refine kC ?_ ?_ | exact kD | fail)))))
 |((with_reducible refine round_next (i := i) (i + 1) ?_ ?_ ?_); (focus (apply SubW [] rfl ?_ ?_ rfl ?_; (repeat' (first | exact kA | refine kB ?_ | refine kC ?_ ?_ | exact kD | fail)))))
 |(with_reducible refine blk_at (id := 2) ?_); ((with_reducible refine JL.loopW 2 999 (fun (k : Nat) tm => (6, .one false [.d (.v (.int .i64 ((k : Int))))]) :: (3, .one false [.d (.v (.int .i64 ((accM (f i) (l.getD i nilT0).mems (accT0 (l.getD i nilT0) (accT f l i)) k))))]) :: tm) (fun (k : Nat) bo => bo) (fun (k : Nat) => k ≤ min 100 (l.getD i nilT0).mems.length) (fun (k : Nat) => (l.getD i nilT0).mems.length - k) (0) ?_ (fun k hk => ?_) ?_); (focus (apply SubW [] rfl ?_ ?_ rfl ?_; (repeat' (first | exact kA | refine kB ?_ | refine kC ?_ ?_ | exact kD | fail)))))
 |((with_reducible refine round_next (i := k) (k + 1) ?_ ?_ ?_); (focus (apply SubW [] rfl ?_ ?_ rfl ?_; (repeat' (first | exact kA | refine kB ?_ | refine kC ?_ ?_ | exact kD | fail)))))
 |refine wA ?_
 |(refine wC ?_ ?_ <;> intro hc)
 |refine wB ?_ ?_
 |(with_reducible refine JL.block ?_)
 |(with_reducible refine F_at ?_); refine eW (vs := [(_, _)]) Tryz.results21 ?_; (focus (repeat' (first | exact oA | refine oB ?_ | refine oC ?_ ?_ | fail)))
 |exact oM
 |fail)
 all_goals first
  | rfl
  | omega
  | exact (decide_eq_false (by omega)).symm
  | (have e : k = min 100 (l.getD i nilT0).mems.length := by omega
     rw [e]; rfl)
  | (have e : i = l.length := by omega
     rw [e]; exact decide_eq_decide.2 (by omega))
  | trace_state
theorem few7_ex (l : List TypD) (hs : smTs l) : ∃ b : Bool, FnSound Tryz.prog 21 [.val true (schC l)] [] { vals := [(false, [.d (.v (.bool b))])] } := by
 have h : ∀ i k, i < l.length → k < (l.getD i nilT0).mems.length → ∃ n : Int, FnSound Tryz.prog 51 [.val true (valC ((l.getD i nilT0).mems.getD k nilM0).dflt)] [] { vals := [(false, [.d (.v (.int .i64 n))])] } := fun i k h1 h2 => size_ex _ ((hs.2 i h1).2 k h2)
 exact ⟨_, rfew7 l hs (fun i k => if g : i < l.length ∧ k < (l.getD i nilT0).mems.length then Classical.choose (h i k g.1 g.2) else 0) fun i k h1 h2 => by
  simp only [dif_pos (And.intro h1 h2)]; exact Classical.choose_spec (h i k h1 h2)⟩
end Go.Proofs.YtgehafnodibhpaaGreatDoor

