/- Rules of runs and contracts of functions, for the claims of one seat. -/
import Derived.Test.YtjpdemikmdfonaaGreatDoorFA15
import Derived.Test.YtjpdemikmdfonaaGreatDoorFA18
import Derived.Test.YtjpdemikmdfonaaGreatDoorFA20
namespace Go.Proofs.YtjpdemikmdfonaaGreatDoor
open Go Go.RowKit
set_option maxRecDepth 100000
set_option maxHeartbeats 8000000
set_option linter.unusedSimpArgs false
set_option linter.unusedVariables false
theorem rorder_fn (a b : Bool) : FnSound Tryz.prog 346 [.val false [.d (.v (.bool a))], .val false [.d (.v (.bool b))]] [] { vals := [(false, [.d (.v (.int .i64 (if b = true then 0 else if a = true then -1 else 1)))])] } := by
 refine startW (tm := [(0, _), (1, _)]) Tryz.func346 rfl Tryz.ntmps346 rfl rfl rfl rfl ?_
 repeat' (first
 |refine wA ?_
 |(refine wC ?_ ?_ <;> intro hc)
 |refine wB ?_ ?_
 |(with_reducible refine JL.block ?_)
 |(with_reducible refine F_at ?_); refine eW (vs := [(_, _)]) Tryz.results346 ?_; (focus (repeat' (first | exact oA | refine oB ?_ | refine oC ?_ ?_ | fail)))
 |exact oM
 |fail)
 all_goals first | rfl | (simp_all; done) | trace_state
theorem rzig_fn (n : Int) (h : -9223372036854775808 ≤ n ∧ n ≤ 9223372036854775807) : FnSound Tryz.prog 347 [.val false [.d (.v (.int .i64 n))]] [] { vals := [(false, [.d (.v (.int .u64 (zigP n)))])] } := by
 refine startW (tm := [(0, _)]) Tryz.func347 rfl Tryz.ntmps347 rfl rfl rfl rfl ?_
 repeat' (first
 |(with_reducible refine W_at ?_); (first
 |(refine W.negI rfl rfl ?_))
 |refine wA ?_
 |(refine wC ?_ ?_ <;> intro hc)
 |refine wB ?_ ?_
 |(with_reducible refine JL.block ?_)
 |(with_reducible refine F_at ?_); refine eW (vs := [(_, _)]) Tryz.results347 ?_; (focus (repeat' (first | exact oA | refine oB ?_ | refine oC ?_ ?_ | fail)))
 |exact oM
 |fail)
 all_goals first | rfl | (unfold zigP; rw [if_pos hc, wrap_u64 (by omega)]; done) | (unfold zigP; rw [if_neg hc, wrap_i64 (n := 0 - (n + 1)) (by omega), wrap_u64 (n := 0 - (n + 1)) (by omega), wrap_u64 (n := 2 * (0 - (n + 1))) (by omega), wrap_u64 (by omega)]; omega) | trace_state
theorem zeroP_mk {k : Int} {b : Bool} {n : Int} {s : ByteArray} {i : Int} {ks is : List ValD} {rs : List RawD} : zeroP (.mk k b n s i ks is rs) = ((decide (k = 1) || !b) && (decide (k = 2) || decide (n = 0)) && (decide (k = 3) || decide (s = ⟨#[]⟩)) && (decide (k = 4 ∨ k = 6) || decide (i = 0)) && (decide (k = 8) || decide ((ks.length : Int) = 0)) && (decide (5 ≤ k) || decide ((is.length : Int) = 0)) && (decide (k = 5 ∨ k = 6) || decide ((rs.length : Int) = 0))) := by
 have e : ∀ {α : Type} (l : List α), l.isEmpty = decide ((l.length : Int) = 0) := fun l => by
  cases l with
  | nil => rfl
  | cons x r => simp; omega
 unfold zeroP ValD.kind ValD.b ValD.n ValD.s ValD.id ValD.keys ValD.items ValD.rest
 simp only [e]
 rfl
theorem rzero_1 (b : Bool) (n : Int) (s : ByteArray) (i : Int) (ks is : List ValD) (rs : List RawD) : FnSound Tryz.prog 302 [.val true (valC (.mk 1 b n s i ks is rs))] [] { vals := [(false, [.d (.v (.bool (zeroP (.mk 1 b n s i ks is rs))))])] } := by
 refine startW (tm := [(0, _)]) Tryz.func302 rfl Tryz.ntmps302 rfl rfl rfl rfl ?_
 repeat' (first
 |(with_reducible refine W_at ?_); (first
 |(with_reducible refine W.consA ?_)
 |(with_reducible refine W.nilA ?_))
 |refine wA ?_
 |(refine wC ?_ ?_ <;> intro hc)
 |refine wB ?_ ?_
 |(with_reducible refine JL.block ?_)
 |(with_reducible refine F_at ?_); refine eW (vs := [(_, _)]) Tryz.results302 ?_; (focus (repeat' (first | exact oA | refine oB ?_ | refine oC ?_ ?_ | fail)))
 |exact oM
 |fail)
 all_goals first | rfl | (rw [zeroP_mk]; simp only [ValD.kind, ValD.b, ValD.n, ValD.s, ValD.id, ValD.keys, ValD.items, ValD.rest] at *; simp_all; done) | trace_state
theorem rzero_2 (b : Bool) (n : Int) (s : ByteArray) (i : Int) (ks is : List ValD) (rs : List RawD) : FnSound Tryz.prog 302 [.val true (valC (.mk 2 b n s i ks is rs))] [] { vals := [(false, [.d (.v (.bool (zeroP (.mk 2 b n s i ks is rs))))])] } := by
 refine startW (tm := [(0, _)]) Tryz.func302 rfl Tryz.ntmps302 rfl rfl rfl rfl ?_
 repeat' (first
 |(with_reducible refine W_at ?_); (first
 |(with_reducible refine W.consA ?_)
 |(with_reducible refine W.nilA ?_))
 |refine wA ?_
 |(refine wC ?_ ?_ <;> intro hc)
 |refine wB ?_ ?_
 |(with_reducible refine JL.block ?_)
 |(with_reducible refine F_at ?_); refine eW (vs := [(_, _)]) Tryz.results302 ?_; (focus (repeat' (first | exact oA | refine oB ?_ | refine oC ?_ ?_ | fail)))
 |exact oM
 |fail)
 all_goals first | rfl | (rw [zeroP_mk]; simp only [ValD.kind, ValD.b, ValD.n, ValD.s, ValD.id, ValD.keys, ValD.items, ValD.rest] at *; simp_all; done) | trace_state
theorem rzero_3 (b : Bool) (n : Int) (s : ByteArray) (i : Int) (ks is : List ValD) (rs : List RawD) : FnSound Tryz.prog 302 [.val true (valC (.mk 3 b n s i ks is rs))] [] { vals := [(false, [.d (.v (.bool (zeroP (.mk 3 b n s i ks is rs))))])] } := by
 refine startW (tm := [(0, _)]) Tryz.func302 rfl Tryz.ntmps302 rfl rfl rfl rfl ?_
 repeat' (first
 |(with_reducible refine W_at ?_); (first
 |(with_reducible refine W.consA ?_)
 |(with_reducible refine W.nilA ?_))
 |refine wA ?_
 |(refine wC ?_ ?_ <;> intro hc)
 |refine wB ?_ ?_
 |(with_reducible refine JL.block ?_)
 |(with_reducible refine F_at ?_); refine eW (vs := [(_, _)]) Tryz.results302 ?_; (focus (repeat' (first | exact oA | refine oB ?_ | refine oC ?_ ?_ | fail)))
 |exact oM
 |fail)
 all_goals first | rfl | (rw [zeroP_mk]; simp only [ValD.kind, ValD.b, ValD.n, ValD.s, ValD.id, ValD.keys, ValD.items, ValD.rest] at *; simp_all; done) | trace_state
theorem rzero_4 (b : Bool) (n : Int) (s : ByteArray) (i : Int) (ks is : List ValD) (rs : List RawD) : FnSound Tryz.prog 302 [.val true (valC (.mk 4 b n s i ks is rs))] [] { vals := [(false, [.d (.v (.bool (zeroP (.mk 4 b n s i ks is rs))))])] } := by
 refine startW (tm := [(0, _)]) Tryz.func302 rfl Tryz.ntmps302 rfl rfl rfl rfl ?_
 repeat' (first
 |(with_reducible refine W_at ?_); (first
 |(with_reducible refine W.consA ?_)
 |(with_reducible refine W.nilA ?_))
 |refine wA ?_
 |(refine wC ?_ ?_ <;> intro hc)
 |refine wB ?_ ?_
 |(with_reducible refine JL.block ?_)
 |(with_reducible refine F_at ?_); refine eW (vs := [(_, _)]) Tryz.results302 ?_; (focus (repeat' (first | exact oA | refine oB ?_ | refine oC ?_ ?_ | fail)))
 |exact oM
 |fail)
 all_goals first | rfl | (rw [zeroP_mk]; simp only [ValD.kind, ValD.b, ValD.n, ValD.s, ValD.id, ValD.keys, ValD.items, ValD.rest] at *; simp_all; done) | trace_state
theorem rzero_5 (b : Bool) (n : Int) (s : ByteArray) (i : Int) (ks is : List ValD) (rs : List RawD) : FnSound Tryz.prog 302 [.val true (valC (.mk 5 b n s i ks is rs))] [] { vals := [(false, [.d (.v (.bool (zeroP (.mk 5 b n s i ks is rs))))])] } := by
 refine startW (tm := [(0, _)]) Tryz.func302 rfl Tryz.ntmps302 rfl rfl rfl rfl ?_
 repeat' (first
 |(with_reducible refine W_at ?_); (first
 |(with_reducible refine W.consA ?_)
 |(with_reducible refine W.nilA ?_))
 |refine wA ?_
 |(refine wC ?_ ?_ <;> intro hc)
 |refine wB ?_ ?_
 |(with_reducible refine JL.block ?_)
 |(with_reducible refine F_at ?_); refine eW (vs := [(_, _)]) Tryz.results302 ?_; (focus (repeat' (first | exact oA | refine oB ?_ | refine oC ?_ ?_ | fail)))
 |exact oM
 |fail)
 all_goals first | rfl | (rw [zeroP_mk]; simp only [ValD.kind, ValD.b, ValD.n, ValD.s, ValD.id, ValD.keys, ValD.items, ValD.rest] at *; simp_all; done) | trace_state
theorem rzero_6 (b : Bool) (n : Int) (s : ByteArray) (i : Int) (ks is : List ValD) (rs : List RawD) : FnSound Tryz.prog 302 [.val true (valC (.mk 6 b n s i ks is rs))] [] { vals := [(false, [.d (.v (.bool (zeroP (.mk 6 b n s i ks is rs))))])] } := by
 refine startW (tm := [(0, _)]) Tryz.func302 rfl Tryz.ntmps302 rfl rfl rfl rfl ?_
 repeat' (first
 |(with_reducible refine W_at ?_); (first
 |(with_reducible refine W.consA ?_)
 |(with_reducible refine W.nilA ?_))
 |refine wA ?_
 |(refine wC ?_ ?_ <;> intro hc)
 |refine wB ?_ ?_
 |(with_reducible refine JL.block ?_)
 |(with_reducible refine F_at ?_); refine eW (vs := [(_, _)]) Tryz.results302 ?_; (focus (repeat' (first | exact oA | refine oB ?_ | refine oC ?_ ?_ | fail)))
 |exact oM
 |fail)
 all_goals first | rfl | (rw [zeroP_mk]; simp only [ValD.kind, ValD.b, ValD.n, ValD.s, ValD.id, ValD.keys, ValD.items, ValD.rest] at *; simp_all; done) | trace_state
theorem rzero_7 (b : Bool) (n : Int) (s : ByteArray) (i : Int) (ks is : List ValD) (rs : List RawD) : FnSound Tryz.prog 302 [.val true (valC (.mk 7 b n s i ks is rs))] [] { vals := [(false, [.d (.v (.bool (zeroP (.mk 7 b n s i ks is rs))))])] } := by
 refine startW (tm := [(0, _)]) Tryz.func302 rfl Tryz.ntmps302 rfl rfl rfl rfl ?_
 repeat' (first
 |(with_reducible refine W_at ?_); (first
 |(with_reducible refine W.consA ?_)
 |(with_reducible refine W.nilA ?_))
 |refine wA ?_
 |(refine wC ?_ ?_ <;> intro hc)
 |refine wB ?_ ?_
 |(with_reducible refine JL.block ?_)
 |(with_reducible refine F_at ?_); refine eW (vs := [(_, _)]) Tryz.results302 ?_; (focus (repeat' (first | exact oA | refine oB ?_ | refine oC ?_ ?_ | fail)))
 |exact oM
 |fail)
 all_goals first | rfl | (rw [zeroP_mk]; simp only [ValD.kind, ValD.b, ValD.n, ValD.s, ValD.id, ValD.keys, ValD.items, ValD.rest] at *; simp_all; done) | trace_state
theorem rzero_8 (b : Bool) (n : Int) (s : ByteArray) (i : Int) (ks is : List ValD) (rs : List RawD) : FnSound Tryz.prog 302 [.val true (valC (.mk 8 b n s i ks is rs))] [] { vals := [(false, [.d (.v (.bool (zeroP (.mk 8 b n s i ks is rs))))])] } := by
 refine startW (tm := [(0, _)]) Tryz.func302 rfl Tryz.ntmps302 rfl rfl rfl rfl ?_
 repeat' (first
 |(with_reducible refine W_at ?_); (first
 |(with_reducible refine W.consA ?_)
 |(with_reducible refine W.nilA ?_))
 |refine wA ?_
 |(refine wC ?_ ?_ <;> intro hc)
 |refine wB ?_ ?_
 |(with_reducible refine JL.block ?_)
 |(with_reducible refine F_at ?_); refine eW (vs := [(_, _)]) Tryz.results302 ?_; (focus (repeat' (first | exact oA | refine oB ?_ | refine oC ?_ ?_ | fail)))
 |exact oM
 |fail)
 all_goals first | rfl | (rw [zeroP_mk]; simp only [ValD.kind, ValD.b, ValD.n, ValD.s, ValD.id, ValD.keys, ValD.items, ValD.rest] at *; simp_all; done) | trace_state
theorem rzero_9 (b : Bool) (n : Int) (s : ByteArray) (i : Int) (ks is : List ValD) (rs : List RawD) : FnSound Tryz.prog 302 [.val true (valC (.mk 9 b n s i ks is rs))] [] { vals := [(false, [.d (.v (.bool (zeroP (.mk 9 b n s i ks is rs))))])] } := by
 refine startW (tm := [(0, _)]) Tryz.func302 rfl Tryz.ntmps302 rfl rfl rfl rfl ?_
 repeat' (first
 |(with_reducible refine W_at ?_); (first
 |(with_reducible refine W.consA ?_)
 |(with_reducible refine W.nilA ?_))
 |refine wA ?_
 |(refine wC ?_ ?_ <;> intro hc)
 |refine wB ?_ ?_
 |(with_reducible refine JL.block ?_)
 |(with_reducible refine F_at ?_); refine eW (vs := [(_, _)]) Tryz.results302 ?_; (focus (repeat' (first | exact oA | refine oB ?_ | refine oC ?_ ?_ | fail)))
 |exact oM
 |fail)
 all_goals first | rfl | (rw [zeroP_mk]; simp only [ValD.kind, ValD.b, ValD.n, ValD.s, ValD.id, ValD.keys, ValD.items, ValD.rest] at *; simp_all; done) | trace_state
theorem rzero_fn (v : ValD) (h : 1 ≤ v.kind ∧ v.kind ≤ 9) : FnSound Tryz.prog 302 [.val true (valC v)] [] { vals := [(false, [.d (.v (.bool (zeroP v)))])] } := by
 obtain ⟨k, b, n, s, i, ks, is, rs⟩ := v
 have h' : 1 ≤ k ∧ k ≤ 9 := h
 have : k = 1 ∨ k = 2 ∨ k = 3 ∨ k = 4 ∨ k = 5 ∨ k = 6 ∨ k = 7 ∨ k = 8 ∨ k = 9 := by omega
 rcases this with rfl | rfl | rfl | rfl | rfl | rfl | rfl | rfl | rfl
 ·exact rzero_1 b n s i ks is rs
 ·exact rzero_2 b n s i ks is rs
 ·exact rzero_3 b n s i ks is rs
 ·exact rzero_4 b n s i ks is rs
 ·exact rzero_5 b n s i ks is rs
 ·exact rzero_6 b n s i ks is rs
 ·exact rzero_7 b n s i ks is rs
 ·exact rzero_8 b n s i ks is rs
 ·exact rzero_9 b n s i ks is rs
end Go.Proofs.YtjpdemikmdfonaaGreatDoor

namespace Go.Proofs.YtjpdemikmdfonaaGreatDoor
open Go Go.RowKit
set_option maxRecDepth 100000
set_option maxHeartbeats 8000000
set_option linter.unusedSimpArgs false
set_option linter.unusedVariables false
theorem rcompare_fn (a b : ValD) (ha : -9223372036854775808 ≤ a.n ∧ a.n ≤ 9223372036854775807) (hb : -9223372036854775808 ≤ b.n ∧ b.n ≤ 9223372036854775807) : FnSound Tryz.prog 308 [.val true (valC a), .val true (valC b)] [] { vals := [(false, [.d (.v (.int .i64 (cmpV a b)))])] } := by
 refine startW (tm := [(0, _), (1, _)]) Tryz.func308 rfl Tryz.ntmps308 rfl rfl rfl rfl ?_
 repeat' (first
 |(with_reducible refine K_ca 346 ?_); refine zC (rorder_fn _ _) ?_
 |(with_reducible refine K_ca 347 ?_); (first
 |refine zC (rzig_fn _ ha) ?_
 |refine zC (rzig_fn _ hb) ?_)
 |refine wA ?_
 |(refine wC ?_ ?_ <;> intro hc)
 |refine wB ?_ ?_
 |(with_reducible refine JL.block ?_)
 |(with_reducible refine F_at ?_); refine eW (vs := [(_, _)]) Tryz.results308 ?_; (focus (repeat' (first | exact oA | refine oB ?_ | refine oC ?_ ?_ | fail)))
 |exact oM
 |fail)
 all_goals first | rfl | (unfold cmpV; simp_all; done) | (unfold cmpV zigP; simp only [decide_eq_true_eq, Bool.false_eq_true, if_false]; (repeat' split) <;> first | rfl | omega | contradiction | (exfalso; omega)) | trace_state
end Go.Proofs.YtjpdemikmdfonaaGreatDoor

namespace Go.Proofs.YtjpdemikmdfonaaGreatDoor
open Go Go.RowKit
set_option maxRecDepth 100000
set_option maxHeartbeats 8000000
set_option linter.unusedSimpArgs false
set_option linter.unusedVariables false
structure SchOk (l : List TypD) : Prop where
 sm : smTs l
 ok : schemaErr l = 0
theorem rrest_nil (t : TypD) (r : List RawD) (h : r = []) : FnSound Tryz.prog 305 [.val true (typC t), .val false [.d (.sl 2 (dRaws r))]] [] { vals := [(false, [.d (.v (.bool true))])] } := by
 refine startW (tm := [(0, _), (1, _)]) Tryz.func305 rfl Tryz.ntmps305 rfl rfl rfl rfl ?_
 repeat' (first
 |(with_reducible refine rgn 4 400 ?_ ?_); exact rfl
 |(with_reducible refine rgn 5 500 ?_ ?_); exact rfl
 |(with_reducible refine rgn 6 600 ?_ ?_); exact rfl
 |(with_reducible refine rgn 3 700 ?_ ?_); exact rfl
 |(with_reducible refine blk_at (id := 0) ?_); ((with_reducible refine JL.loopW 0 299 (fun (k : Nat) tm => (5, .one false [.d (.v (.int .i64 ((k : Int))))]) :: tm) (fun (k : Nat) bo => bo) (fun (k : Nat) => k = 0) (fun (k : Nat) => 1 - k) (0) ?_ (fun k hk => ?_) ?_); (focus (apply SubW [] rfl ?_ ?_ rfl ?_; (repeat' (first | exact kA | refine kB ?_ | refine kC ?_ ?_ | exact kD | fail)))))
 |((with_reducible refine round_next (i := k) (k + 1) ?_ ?_ ?_); (focus (apply SubW [] rfl ?_ ?_ rfl ?_; (repeat' (first | exact kA | refine kB ?_ | refine kC ?_ ?_ | exact kD | fail)))))
 |refine wA ?_
 |(refine wC ?_ ?_ <;> intro hc)
 |refine wB ?_ ?_
 |(with_reducible refine JL.block ?_)
 |(with_reducible refine F_at ?_); refine eW (vs := [(_, _)]) Tryz.results305 ?_; (focus (repeat' (first | exact oA | refine oB ?_ | refine oC ?_ ?_ | fail)))
 |exact oM
 |fail)
 all_goals first | rfl | omega | (exfalso; have h2 : r.length = 0 := (by rw [h]; rfl); omega) | trace_state
theorem all_no {α : Type} {l : List α} {p : α → Bool} {d : α} {j : Nat} (hj : j < l.length) (h : p (l.getD j d) = false) : l.all p = false := by
 rw [List.all_eq_false]
 exact ⟨l.getD j d, by simp [List.getD, hj], by rw [h]; decide⟩
theorem all_yes {α : Type} {l : List α} {p : α → Bool} {d : α} (h : ∀ j, j < l.length → p (l.getD j d) = true) : l.all p = true := by
 rw [List.all_eq_true]
 intro x hx
 obtain ⟨j, hj, rfl⟩ := List.getElem_of_mem hx
 have := h j hj
 simpa [List.getD, hj] using this
theorem rall_fn (l : List TypD) (t : Int) (vs : List ValD) (hl : vs.length ≤ 5900000000000) (ih : ∀ k, k < vs.length → FnSound Tryz.prog 269 [.val true (schC l), .val false [.d (.v (.int .i64 t))], .val true (valC (vs.getD k nilV)), .val false [.d (.v (.bool true))]] [] { vals := [(false, [.d (.v (.bool (plainP l t (vs.getD k nilV))))])] }) :
    FnSound Tryz.prog 307 [.val true (schC l), .val false [.d (.v (.int .i64 t))], .val false [.d (.sl 8 (dVals vs))], .val false [.d (.v (.bool true))]] [] { vals := [(false, [.d (.v (.bool (plainAll l t vs)))])] } := by
 rw [plainAll_eq]
 refine startW (tm := [(0, _), (1, _), (2, _), (3, _)]) Tryz.func307 rfl Tryz.ntmps307 rfl rfl rfl rfl ?_
 repeat' (first
 |(with_reducible refine rgn 4 400 ?_ ?_); exact rfl
 |(with_reducible refine rgn 5 500 ?_ ?_); exact rfl
 |(with_reducible refine rgn 3 600 ?_ ?_); exact rfl
 |(with_reducible refine K_ca 269 ?_); (first
 |refine W.call0A rfl BoC.h (ih _ (by omega)) rfl rfl rfl ?_
 |refine W.call1A rfl BoC.h (ih _ (by omega)) rfl rfl rfl rfl rfl ?_)
 |(with_reducible refine blk_at (id := 0) ?_); ((with_reducible refine JL.loopW 0 299 (fun (k : Nat) tm => (9, .one false [.d (.v (.int .i64 ((k : Int))))]) :: tm) (fun (k : Nat) bo => bo) (fun (k : Nat) => k ≤ vs.length ∧ ∀ j, j < k → plainP l t (vs.getD j nilV) = true) (fun (k : Nat) => vs.length - k) (0) ?_ (fun k hk => ?_) ?_); (focus (apply SubW [] rfl ?_ ?_ rfl ?_; (repeat' (first | exact kA | refine kB ?_ | refine kC ?_ ?_ | exact kD | fail)))))
 |((with_reducible refine round_next (i := k) (k + 1) ?_ ?_ ?_); (focus (apply SubW [] rfl ?_ ?_ rfl ?_; (repeat' (first | exact kA | refine kB ?_ | refine kC ?_ ?_ | exact kD | fail)))))
 |refine wA ?_
 |(refine wC ?_ ?_ <;> intro hc)
 |refine wB ?_ ?_
 |(with_reducible refine JL.block ?_)
 |(with_reducible refine F_at ?_); refine eW (vs := [(_, _)]) Tryz.results307 ?_; (focus (repeat' (first | exact oA | refine oB ?_ | refine oC ?_ ?_ | fail)))
 |exact oM
 |fail)
 all_goals first
  | rfl
  | omega
  | exact ⟨Nat.zero_le _, fun j hj => absurd hj (Nat.not_lt_zero j)⟩
  | exact ⟨by omega, lt_next hk.2 (by simpa using hc)⟩
  | exact (all_no (j := k) (d := nilV) (by omega) (nt hc)).symm
  | exact (all_yes (d := nilV) (fun j hj => hk.2 j (by omega))).symm
  | trace_state
end Go.Proofs.YtjpdemikmdfonaaGreatDoor

namespace Go.Proofs.YtjpdemikmdfonaaGreatDoor
open Go Go.RowKit
set_option maxRecDepth 100000
set_option maxHeartbeats 8000000
set_option linter.unusedSimpArgs false
set_option linter.unusedVariables false
theorem only_mems {t : TypD} (h : onlyP t = true) : t.kind = 5 ∨ t.kind = 6 ∨ t.mems = [] := by
 simp only [onlyP, Bool.and_eq_true, Bool.or_eq_true, decide_eq_true_eq, List.isEmpty_iff] at h
 rcases h.1.1.1.2 with g | g
 ·rcases g with g | g
  ·exact .inl g
  ·exact .inr (.inl g)
 ·exact .inr (.inr g)
theorem only_syms {t : TypD} (h : onlyP t = true) : t.kind = 4 ∨ t.syms = [] := by
 simp only [onlyP, Bool.and_eq_true, Bool.or_eq_true, decide_eq_true_eq, List.isEmpty_iff] at h
 exact h.1.1.1.1.2
theorem form_few {t : TypD} (h : formP t = true) : t.mems.length ≤ 16 ∧ t.syms.length ≤ 16 := by
 unfold formP at h
 simp only [Bool.and_eq_true, Bool.or_eq_true, Bool.not_eq_true', decide_eq_false_iff_not, decide_eq_true_eq] at h
 obtain ⟨⟨⟨⟨⟨⟨⟨_, h1⟩, _⟩, _⟩, _⟩, h2⟩, h3⟩, _⟩ := h
 constructor
 ·rcases only_mems h1 with g | g | g
  ·have := h3.resolve_left (fun a => a (.inl g))
   rw [mems_eq] at this
   simp only [Bool.and_eq_true, decide_eq_true_eq] at this
   exact this.2
  ·have := h3.resolve_left (fun a => a (.inr g))
   rw [mems_eq] at this
   simp only [Bool.and_eq_true, decide_eq_true_eq] at this
   exact this.2
  ·rw [g]; simp
 ·rcases only_syms h1 with g | g
  ·have := h2.resolve_left (fun a => a g)
   unfold symsP at this
   simp only [Bool.and_eq_true, decide_eq_true_eq] at this
   exact this.2
  ·rw [g]; simp
theorem getD_mem {α : Type} {l : List α} {d : α} {k : Nat} (h : k < l.length) : l.getD k d ∈ l := by simp [List.getD, h]
structure TypIn (l : List TypD) (t : TypD) : Prop where
 form : formP t = true
 few : t.mems.length ≤ 16 ∧ t.syms.length ≤ 16
 kind : 1 ≤ t.kind ∧ t.kind ≤ 9
 mem : ∀ k, k < t.mems.length → 0 ≤ (t.mems.getD k nilM0).typ ∧ (t.mems.getD k nilM0).typ < l.length
 elem : 7 ≤ t.kind → 0 ≤ t.elem ∧ t.elem < l.length
 key : t.kind = 8 → 0 ≤ t.key ∧ t.key < l.length
theorem typ_uses {l : List TypD} {i : Nat} (h : typErr l i = 0) : formP (l.getD i nilT0) = true ∧ ∀ u ∈ usesP (l.getD i nilT0), outT l.length u = false := by
 unfold typErr at h
 split at h
 ·cases h
 ·rename_i h1
  split at h
  ·cases h
  ·rename_i h2
   refine ⟨?_, fun u hu => ?_⟩
   ·cases g : formP (l.getD i nilT0) with
    | true => rfl
    | false => exact absurd (.inl g) h1
   ·have : (usesP (l.getD i nilT0)).any (outT l.length) = false := by simpa using h2
    rw [List.any_eq_false] at this
    simpa using this u hu
theorem typIn_of {l : List TypD} (h : schemaErr l = 0) {i : Nat} (hi : i < l.length) : TypIn l (l.getD i nilT0) := by
 unfold schemaErr at h
 split at h
 ·cases h
 ·obtain ⟨h1, h2⟩ := typ_uses (firstE_all h i hi)
  have hu : ∀ u ∈ usesP (l.getD i nilT0), 0 ≤ u ∧ u < l.length := fun u hu => by
   have := h2 u hu
   unfold outT at this
   have := of_decide_eq_false this
   omega
  refine ⟨h1, form_few h1, form_kind h1, fun k hk => hu _ ?_, fun g => hu _ ?_, fun g => hu _ ?_⟩
  ·unfold usesP
   refine List.mem_append_left _ (List.mem_append_left _ (List.mem_map.2 ⟨_, ?_, rfl⟩))
   exact getD_mem hk
  ·unfold usesP; rw [if_pos g]; simp
  ·unfold usesP; rw [if_pos g]; simp
theorem schema_few {l : List TypD} (h : schemaErr l = 0) : l.length ≤ 32 := by
 unfold schemaErr at h
 split at h <;> omega
theorem memAt_lt {l : List MemD} {id : Int} (h : (memAt l id).isSome = true) : (memAt l id).getD 0 < l.length := by
 cases g : memAt l id with
 | none => rw [g] at h; cases h
 | some k =>
  unfold memAt at g
  have := (List.findIdx?_eq_some_iff_getElem.1 g).1
  exact this
structure FitG (l : List TypD) (t : Int) (v : ValD) : Prop where
 lo : ¬ t < 0
 hi : ¬ (l.length : Int) ≤ t
 kind : v.kind = (l.getD t.toNat nilT0).kind
 zero : zeroP v = true
 rest : v.rest = []
theorem pl_out {l : List TypD} {t : Int} {v : ValD} (h : t < 0 ∨ (l.length : Int) ≤ t) : false = plainP l t v := by
 obtain ⟨k, b, n, s, i, ks, is, rs⟩ := v
 unfold plainP; rw [if_pos h]
theorem pl_bad {l : List TypD} {t : Int} {v : ValD} (h1 : ¬ t < 0) (h2 : ¬ (l.length : Int) ≤ t) (h : ¬ v.kind = (l.getD t.toNat nilT0).kind ∨ zeroP v = false ∨ ¬ v.rest = []) : false = plainP l t v := by
 obtain ⟨k, b, n, s, i, ks, is, rs⟩ := v
 unfold plainP; rw [if_neg (by omega)]; exact (if_pos h).symm
theorem pl_go {l : List TypD} {t : Int} {v : ValD} (g : FitG l t v) : plainP l t v =
    if (l.getD t.toNat nilT0).kind = 2 then decide ((l.getD t.toNat nilT0).low ≤ v.n ∧ v.n ≤ (l.getD t.toNat nilT0).high)
    else if (l.getD t.toNat nilT0).kind = 3 then decide ((v.s.size : Int) ≤ (l.getD t.toNat nilT0).max)
    else if (l.getD t.toNat nilT0).kind = 4 then (symAt (l.getD t.toNat nilT0).syms v.id).isSome
    else if (l.getD t.toNat nilT0).kind = 5 then decide (v.items.length = (l.getD t.toNat nilT0).mems.length) && plainMs l (l.getD t.toNat nilT0).mems v.items
    else if (l.getD t.toNat nilT0).kind = 6 then match memAt (l.getD t.toNat nilT0).mems v.id with
     | some j => plainOne l ((l.getD t.toNat nilT0).mems.getD j nilM0).typ v.items
     | none => false
    else if (l.getD t.toNat nilT0).kind = 7 then decide ((v.items.length : Int) ≤ (l.getD t.toNat nilT0).max) && plainAll l (l.getD t.toNat nilT0).elem v.items
    else if (l.getD t.toNat nilT0).kind = 8 then decide ((v.keys.length : Int) ≤ (l.getD t.toNat nilT0).max ∧ v.items.length = v.keys.length) && plainAll l (l.getD t.toNat nilT0).key v.keys && ascV v.keys && plainAll l (l.getD t.toNat nilT0).elem v.items
    else if (l.getD t.toNat nilT0).kind = 9 then decide (v.items.length ≤ 1) && plainAll l (l.getD t.toNat nilT0).elem v.items
    else true := by
 obtain ⟨h1, h2, h3, h4, h5⟩ := g
 rw [← h3]
 obtain ⟨k, b, n, s, i, ks, is, rs⟩ := v
 conv => lhs; unfold plainP
 rw [if_neg (by omega), if_neg]
 ·rfl
 ·rintro (a | a | a)
  ·exact a h3
  ·rw [h4] at a; cases a
  ·exact a h5
theorem ms_no {l : List TypD} : ∀ {ms : List MemD} {is : List ValD} {j : Nat}, j < ms.length → j < is.length → plainP l (ms.getD j nilM0).typ (is.getD j nilV) = false → plainMs l ms is = false
 | [], _, _, h, _, _ => absurd h (Nat.not_lt_zero _)
 | _ :: _, [], _, _, h, _ => absurd h (Nat.not_lt_zero _)
 | m :: ms, v :: is, 0, _, _, h => by
  unfold plainMs
  rw [show plainP l m.typ v = false from h]; rfl
 | m :: ms, v :: is, j + 1, h1, h2, h => by
  unfold plainMs
  rw [ms_no (ms := ms) (is := is) (j := j) (by simpa using h1) (by simpa using h2) (by simpa using h), Bool.and_false]
theorem ms_yes {l : List TypD} : ∀ {ms : List MemD} {is : List ValD}, (∀ j, j < ms.length → j < is.length → plainP l (ms.getD j nilM0).typ (is.getD j nilV) = true) → plainMs l ms is = true
 | [], _, _ => by unfold plainMs; rfl
 | _ :: _, [], _ => by unfold plainMs; rfl
 | m :: ms, v :: is, h => by
  unfold plainMs
  rw [show plainP l m.typ v = true from h 0 (by simp) (by simp), ms_yes (ms := ms) (is := is) fun j h1 h2 => by
   have := h (j + 1) (by simpa using h1) (by simpa using h2)
   simpa using this]
  rfl
theorem asc_no : ∀ {ks : List ValD} {j : Nat}, j + 1 < ks.length → ¬ cmpV (ks.getD j nilV) (ks.getD (j + 1) nilV) < 0 → ascV ks = false
 | [], _, h, _ => absurd h (Nat.not_lt_zero _)
 | [_], _, h, _ => by simp at h
 | a :: b :: r, 0, _, h => by
  unfold ascV
  rw [decide_eq_false (show ¬ cmpV a b < 0 from h)]; rfl
 | a :: b :: r, j + 1, h1, h => by
  unfold ascV
  rw [asc_no (ks := b :: r) (j := j) (by simpa using h1) (by simpa using h), Bool.and_false]
theorem asc_yes : ∀ {ks : List ValD}, (∀ j, j + 1 < ks.length → cmpV (ks.getD j nilV) (ks.getD (j + 1) nilV) < 0) → ascV ks = true
 | [], _ => rfl
 | [_], _ => rfl
 | a :: b :: r, h => by
  unfold ascV
  rw [decide_eq_true (show cmpV a b < 0 from h 0 (by simp)), asc_yes (ks := b :: r) fun j hj => by
   have := h (j + 1) (by simpa using hj)
   simpa using this]
  rfl
section
variable {l : List TypD} {t : Int} {v : ValD}
theorem pl_1 (g : FitG l t v) (h : (l.getD t.toNat nilT0).kind = 1) : true = plainP l t v := by rw [pl_go g]; simp only [h]; rfl
theorem pl_2y (g : FitG l t v) (h : (l.getD t.toNat nilT0).kind = 2) (hc : (l.getD t.toNat nilT0).low ≤ v.n) : decide (v.n ≤ (l.getD t.toNat nilT0).high) = plainP l t v := by
 rw [pl_go g, if_pos h]; exact decide_eq_decide.2 (by omega)
theorem pl_2n (g : FitG l t v) (h : (l.getD t.toNat nilT0).kind = 2) (hc : ¬ (l.getD t.toNat nilT0).low ≤ v.n) : false = plainP l t v := by
 rw [pl_go g, if_pos h]; exact (decide_eq_false (by omega)).symm
theorem pl_3 (g : FitG l t v) (h : (l.getD t.toNat nilT0).kind = 3) : decide ((v.s.size : Int) ≤ (l.getD t.toNat nilT0).max) = plainP l t v := by
 rw [pl_go g, if_neg (by omega), if_pos h]
theorem pl_4 (g : FitG l t v) (h : (l.getD t.toNat nilT0).kind = 4) : (symAt (l.getD t.toNat nilT0).syms v.id).isSome = plainP l t v := by
 rw [pl_go g, if_neg (by omega), if_neg (by omega), if_pos h]
theorem pl_5 (g : FitG l t v) (h : (l.getD t.toNat nilT0).kind = 5) : (decide (v.items.length = (l.getD t.toNat nilT0).mems.length) && plainMs l (l.getD t.toNat nilT0).mems v.items) = plainP l t v := by
 rw [pl_go g, if_neg (by omega), if_neg (by omega), if_neg (by omega), if_pos h]
theorem pl_5n (g : FitG l t v) (h : (l.getD t.toNat nilT0).kind = 5) (hc : ¬ (v.items.length : Int) = (l.getD t.toNat nilT0).mems.length) : false = plainP l t v := by
 rw [← pl_5 g h, decide_eq_false (by omega)]; rfl
theorem pl_5a (g : FitG l t v) (h : (l.getD t.toNat nilT0).kind = 5) (he : (v.items.length : Int) = (l.getD t.toNat nilT0).mems.length) {k : Nat} (hk : k < v.items.length) (hc : plainP l ((l.getD t.toNat nilT0).mems.getD k nilM0).typ (v.items.getD k nilV) = false) : false = plainP l t v := by
 rw [← pl_5 g h, ms_no (by omega) hk hc, Bool.and_false]
theorem pl_5y (g : FitG l t v) (h : (l.getD t.toNat nilT0).kind = 5) (he : (v.items.length : Int) = (l.getD t.toNat nilT0).mems.length) (hc : ∀ k, k < v.items.length → plainP l ((l.getD t.toNat nilT0).mems.getD k nilM0).typ (v.items.getD k nilV) = true) : true = plainP l t v := by
 rw [← pl_5 g h, ms_yes fun j _ h2 => hc j h2, decide_eq_true (by omega)]; rfl
theorem pl_6 (g : FitG l t v) (h : (l.getD t.toNat nilT0).kind = 6) : (match memAt (l.getD t.toNat nilT0).mems v.id with
      | some j => plainOne l ((l.getD t.toNat nilT0).mems.getD j nilM0).typ v.items
      | none => false) = plainP l t v := by
 rw [pl_go g, if_neg (by omega), if_neg (by omega), if_neg (by omega), if_neg (by omega), if_pos h]
theorem pl_6n (g : FitG l t v) (h : (l.getD t.toNat nilT0).kind = 6) (hc : (memAt (l.getD t.toNat nilT0).mems v.id).isSome = false) : false = plainP l t v := by
 rw [← pl_6 g h]
 cases e : memAt (l.getD t.toNat nilT0).mems v.id with
 | none => rfl
 | some j => rw [e] at hc; cases hc
theorem one_at {T : Int} {is : List ValD} (h : (is.length : Int) = 1) : plainOne l T is = plainP l T (is.getD 0 nilV) := by
 match is, h with
 | [x], _ => unfold plainOne; rfl
 | [], h => simp at h
 | _ :: _ :: _, h => simp at h; omega
theorem one_no {T : Int} {is : List ValD} (h : ¬ (is.length : Int) = 1) : plainOne l T is = false := by
 match is, h with
 | [x], h => simp at h
 | [], _ => unfold plainOne; rfl
 | _ :: _ :: _, _ => unfold plainOne; rfl
theorem pl_6y (g : FitG l t v) (h : (l.getD t.toNat nilT0).kind = 6) (hc : (memAt (l.getD t.toNat nilT0).mems v.id).isSome = true) (h1 : (v.items.length : Int) = 1) : plainP l ((l.getD t.toNat nilT0).mems.getD ((memAt (l.getD t.toNat nilT0).mems v.id).getD 0) nilM0).typ (v.items.getD 0 nilV) = plainP l t v := by
 rw [← pl_6 g h]
 cases e : memAt (l.getD t.toNat nilT0).mems v.id with
 | none => rw [e] at hc; cases hc
 | some j => exact (one_at h1).symm
theorem pl_6o (g : FitG l t v) (h : (l.getD t.toNat nilT0).kind = 6) (h1 : ¬ (v.items.length : Int) = 1) : false = plainP l t v := by
 rw [← pl_6 g h]
 cases e : memAt (l.getD t.toNat nilT0).mems v.id with
 | none => rfl
 | some j => exact (one_no h1).symm
theorem pl_7 (g : FitG l t v) (h : (l.getD t.toNat nilT0).kind = 7) : (decide ((v.items.length : Int) ≤ (l.getD t.toNat nilT0).max) && plainAll l (l.getD t.toNat nilT0).elem v.items) = plainP l t v := by
 rw [pl_go g, if_neg (by omega), if_neg (by omega), if_neg (by omega), if_neg (by omega), if_neg (by omega), if_pos h]
theorem pl_7y (g : FitG l t v) (h : (l.getD t.toNat nilT0).kind = 7) (hc : (v.items.length : Int) ≤ (l.getD t.toNat nilT0).max) : plainAll l (l.getD t.toNat nilT0).elem v.items = plainP l t v := by
 rw [← pl_7 g h, decide_eq_true hc]; rfl
theorem pl_7n (g : FitG l t v) (h : (l.getD t.toNat nilT0).kind = 7) (hc : ¬ (v.items.length : Int) ≤ (l.getD t.toNat nilT0).max) : false = plainP l t v := by
 rw [← pl_7 g h, decide_eq_false hc]; rfl
theorem pl_8 (g : FitG l t v) (h : (l.getD t.toNat nilT0).kind = 8) : (decide ((v.keys.length : Int) ≤ (l.getD t.toNat nilT0).max ∧ v.items.length = v.keys.length) && plainAll l (l.getD t.toNat nilT0).key v.keys && ascV v.keys && plainAll l (l.getD t.toNat nilT0).elem v.items) = plainP l t v := by
 rw [pl_go g, if_neg (by omega), if_neg (by omega), if_neg (by omega), if_neg (by omega), if_neg (by omega), if_neg (by omega), if_pos h]
theorem pl_8n (g : FitG l t v) (h : (l.getD t.toNat nilT0).kind = 8) (hc : ¬ ((v.keys.length : Int) ≤ (l.getD t.toNat nilT0).max ∧ (v.items.length : Int) = v.keys.length)) : false = plainP l t v := by
 rw [← pl_8 g h, decide_eq_false (by omega)]; rfl
theorem pl_8k (g : FitG l t v) (h : (l.getD t.toNat nilT0).kind = 8) (hc : plainAll l (l.getD t.toNat nilT0).key v.keys = false) : false = plainP l t v := by
 rw [← pl_8 g h, hc]; simp
theorem pl_8e (g : FitG l t v) (h : (l.getD t.toNat nilT0).kind = 8) (hc : plainAll l (l.getD t.toNat nilT0).elem v.items = false) : false = plainP l t v := by
 rw [← pl_8 g h, hc]; simp
theorem pl_8a (g : FitG l t v) (h : (l.getD t.toNat nilT0).kind = 8) {j : Nat} (hj : 1 ≤ j) (hj2 : (j : Int) < v.keys.length) (hc : 0 ≤ cmpV (v.keys.getD ((j : Int) - 1).toNat nilV) (v.keys.getD j nilV)) : false = plainP l t v := by
 obtain ⟨i, rfl⟩ : ∃ i, j = i + 1 := ⟨j - 1, by omega⟩
 rw [show (((i + 1 : Nat) : Int) - 1).toNat = i by omega] at hc
 rw [← pl_8 g h, asc_no (j := i) (by omega) (by omega)]; simp
theorem pl_8y (g : FitG l t v) (h : (l.getD t.toNat nilT0).kind = 8) (h1 : (v.keys.length : Int) ≤ (l.getD t.toNat nilT0).max ∧ (v.items.length : Int) = v.keys.length) (h2 : plainAll l (l.getD t.toNat nilT0).key v.keys = true) (hc : ∀ j, j + 1 < v.keys.length → cmpV (v.keys.getD j nilV) (v.keys.getD (j + 1) nilV) < 0) : plainAll l (l.getD t.toNat nilT0).elem v.items = plainP l t v := by
 rw [← pl_8 g h, decide_eq_true (by omega), h2, asc_yes hc]; rfl
theorem pl_9 (g : FitG l t v) (h : (l.getD t.toNat nilT0).kind = 9) : (decide (v.items.length ≤ 1) && plainAll l (l.getD t.toNat nilT0).elem v.items) = plainP l t v := by
 rw [pl_go g, if_neg (by omega), if_neg (by omega), if_neg (by omega), if_neg (by omega), if_neg (by omega), if_neg (by omega), if_neg (by omega), if_pos h]
theorem pl_9y (g : FitG l t v) (h : (l.getD t.toNat nilT0).kind = 9) (hc : (v.items.length : Int) ≤ 1) : plainAll l (l.getD t.toNat nilT0).elem v.items = plainP l t v := by
 rw [← pl_9 g h, decide_eq_true (by omega)]; rfl
theorem pl_9n (g : FitG l t v) (h : (l.getD t.toNat nilT0).kind = 9) (hc : ¬ (v.items.length : Int) ≤ 1) : false = plainP l t v := by
 rw [← pl_9 g h, decide_eq_false (by omega)]; rfl
theorem fitG_of (h1 : ¬ t < 0) (h2 : ¬ (l.length : Int) ≤ t) (h3 : v.kind = (l.getD t.toNat nilT0).kind) (h4 : (!zeroP v) = false) (h5 : ¬ 0 < (v.rest.length : Int)) : FitG l t v := ⟨h1, h2, h3, nf h4, List.length_eq_zero_iff.1 (by omega)⟩
end
def ascTo (ks : List ValD) (k : Nat) : Prop := ∀ j, j + 1 < k → cmpV (ks.getD j nilV) (ks.getD (j + 1) nilV) < 0
theorem rg_all : ∀ (vs : List ValD), smVs vs → ∀ (j : Nat) (v : ValD), vs[j]? = some v → -9223372036854775808 ≤ v.n ∧ v.n ≤ 9223372036854775807
 | [], _, j, v, hv => by simp at hv
 | x :: r, h, j, v, hv => by
  unfold smVs at h
  match j with
  | 0 =>
   simp at hv; subst hv
   obtain ⟨k, b, n, s, i, ks, is, rs⟩ := x
   have h1 := h.1
   unfold smV at h1
   exact h1.1.2.2.2
  | j + 1 => exact rg_all r h.2 j v (by simpa using hv)
theorem rfit1 (l : List TypD) (hS : SchOk l) (t : Int) (v : ValD) (hv : v.keys.length ≤ 5900000000000 ∧ v.items.length ≤ 5900000000000 ∧ v.rest.length ≤ 5900000000000) (hkr : ∀ k, k < v.keys.length → -9223372036854775808 ≤ (v.keys.getD k nilV).n ∧ (v.keys.getD k nilV).n ≤ 9223372036854775807)
    (ihI : ∀ (t : Int) (k : Nat), k < v.items.length → FnSound Tryz.prog 269 [.val true (schC l), .val false [.d (.v (.int .i64 t))], .val true (valC (v.items.getD k nilV)), .val false [.d (.v (.bool true))]] [] { vals := [(false, [.d (.v (.bool (plainP l t (v.items.getD k nilV))))])] })
    (ihA : ∀ (t : Int), FnSound Tryz.prog 307 [.val true (schC l), .val false [.d (.v (.int .i64 t))], .val false [.d (.sl 8 (dVals v.items))], .val false [.d (.v (.bool true))]] [] { vals := [(false, [.d (.v (.bool (plainAll l t v.items)))])] })
    (ihK : ∀ (t : Int), FnSound Tryz.prog 307 [.val true (schC l), .val false [.d (.v (.int .i64 t))], .val false [.d (.sl 8 (dVals v.keys))], .val false [.d (.v (.bool true))]] [] { vals := [(false, [.d (.v (.bool (plainAll l t v.keys)))])] }) :
    FnSound Tryz.prog 269 [.val true (schC l), .val false [.d (.v (.int .i64 t))], .val true (valC v), .val false [.d (.v (.bool true))]] [] { vals := [(false, [.d (.v (.bool (plainP l t v)))])] } := by
 have hty := fun (h1 : 0 ≤ t) (h2 : t < l.length) => typIn_of hS.ok (show t.toNat < l.length by omega)
 have hty9 := fun (h1 : 0 ≤ t) (h2 : t < l.length) => (hty h1 h2).kind
 have htyf := fun (h1 : 0 ≤ t) (h2 : t < l.length) => (hty h1 h2).few
 have hl := hS.sm.1
 refine startW (tm := [(0, _), (1, _), (2, _), (3, _)]) Tryz.func269 rfl Tryz.ntmps269 rfl rfl rfl rfl ?_
 repeat' (first
 |(with_reducible refine rgn 22 2200 ?_ ?_); exact rfl
 |(with_reducible refine rgn 23 2300 ?_ ?_); exact rfl
 |(with_reducible refine rgn 21 2400 ?_ ?_); exact rfl
 |(with_reducible refine rgn 38 3800 ?_ ?_); exact rfl
 |(with_reducible refine rgn 39 3900 ?_ ?_); exact rfl
 |(with_reducible refine rgn 37 4000 ?_ ?_); exact rfl
 |(with_reducible refine K_ca 302 ?_); refine zC (rzero_fn v (by omega)) ?_
 |(with_reducible refine K_ca 303 ?_); (first
 |refine W.call0T rfl BoC.h (rsymbol_fn _ _ (by omega)) rfl rfl rfl ?_
 |refine W.call1T rfl BoC.h (rsymbol_fn _ _ (by omega)) rfl rfl rfl rfl rfl ?_)
 |(with_reducible refine K_ca 305 ?_); (first
 |refine W.call0A rfl BoC.h (rrest_nil _ _ (List.length_eq_zero_iff.1 (by omega))) rfl rfl rfl ?_
 |refine W.call1A rfl BoC.h (rrest_nil _ _ (List.length_eq_zero_iff.1 (by omega))) rfl rfl rfl rfl rfl ?_)
 |(with_reducible refine K_ca 269 ?_); (first
 |refine W.call0A rfl BoC.h (ihI _ _ (by omega)) rfl rfl rfl ?_
 |refine W.call1A rfl BoC.h (ihI _ _ (by omega)) rfl rfl rfl rfl rfl ?_
 |refine W.call0A rfl BoC.h (ihI _ 0 (by omega)) rfl rfl rfl ?_
 |refine W.call1A rfl BoC.h (ihI _ 0 (by omega)) rfl rfl rfl rfl rfl ?_)
 |(with_reducible refine K_ca 306 ?_); (first
 |refine W.call0T rfl BoC.h (rmember_fn _ _ (by omega)) rfl rfl rfl ?_
 |refine W.call1T rfl BoC.h (rmember_fn _ _ (by omega)) rfl rfl rfl rfl rfl ?_)
 |(with_reducible refine K_ca 307 ?_); (first
 |refine zC (ihA _) ?_
 |refine zC (ihK _) ?_)
 |(with_reducible refine K_ca 308 ?_); (first
 |refine W.call0A rfl BoC.h (rcompare_fn _ _ (hkr _ (by omega)) (hkr _ (by omega))) rfl rfl rfl ?_
 |refine W.call1A rfl BoC.h (rcompare_fn _ _ (hkr _ (by omega)) (hkr _ (by omega))) rfl rfl rfl rfl rfl ?_)
 |(with_reducible refine blk_at (id := 1) ?_); ((with_reducible refine JL.loopW 1 2099 (fun (k : Nat) tm => (12, .one false [.d (.v (.int .i64 ((k : Int))))]) :: tm) (fun (k : Nat) bo => bo) (fun (k : Nat) => k ≤ v.items.length ∧ ∀ j, j < k → plainP l ((l.getD t.toNat nilT0).mems.getD j nilM0).typ (v.items.getD j nilV) = true) (fun (k : Nat) => v.items.length - k) (0) ?_ (fun k hk => ?_) ?_); (focus (apply SubW [] rfl ?_ ?_ rfl ?_; (repeat' (first | exact kA | refine kB ?_ | refine kC ?_ ?_ | exact kD | fail)))))
 |((with_reducible refine round_next (i := k) (k + 1) ?_ ?_ ?_); (focus (apply SubW [] rfl ?_ ?_ rfl ?_; (repeat' (first | exact kA | refine kB ?_ | refine kC ?_ ?_ | exact kD | fail)))))
 |(with_reducible refine blk_at (id := 3) ?_); ((with_reducible refine JL.loopW 3 3699 (fun (j : Nat) tm => (15, .one false [.d (.v (.int .i64 ((j : Int))))]) :: tm) (fun (j : Nat) bo => bo) (fun (j : Nat) => (j ≤ v.keys.length ∨ j = 1) ∧ 1 ≤ j ∧ ascTo v.keys j) (fun (j : Nat) => v.keys.length - j) (1) ?_ (fun j hj => ?_) ?_); (focus (apply SubW [] rfl ?_ ?_ rfl ?_; (repeat' (first | exact kA | refine kB ?_ | refine kC ?_ ?_ | exact kD | fail)))))
 |((with_reducible refine round_next (i := j) (j + 1) ?_ ?_ ?_); (focus (apply SubW [] rfl ?_ ?_ rfl ?_; (repeat' (first | exact kA | refine kB ?_ | refine kC ?_ ?_ | exact kD | fail)))))
 |refine wA ?_
 |(refine wC ?_ ?_ <;> intro hc)
 |refine wB ?_ ?_
 |(with_reducible refine JL.block ?_)
 |(with_reducible refine F_at ?_); refine eW (vs := [(_, _)]) Tryz.results269 ?_; (focus (repeat' (first | exact oA | refine oB ?_ | refine oC ?_ ?_ | fail)))
 |exact oM
 |fail)
 all_goals first
  | with_reducible rfl
  | omega
  | exact pl_out (by omega)
  | exact pl_bad (by assumption) (by assumption) (.inl hc)
  | exact pl_bad (by assumption) (by assumption) (.inr (.inl (nt hc)))
  | (refine pl_bad (by assumption) (by assumption) (.inr (.inr ?_)); intro e; rw [e] at hc; simp at hc; done)
  | exact ⟨Nat.zero_le _, fun j hj => absurd hj (Nat.not_lt_zero j)⟩
  | exact ⟨.inr rfl, Nat.le_refl 1, fun j hj => by omega⟩
  | exact memAt_lt (by assumption)
  | (have G := fitG_of (l := l) (t := t) (v := v) (by assumption) (by assumption) (by assumption) (by assumption) (by assumption)
     first
      | exact pl_1 G (by assumption)
      | exact pl_2y G (by assumption) hc
      | exact pl_2n G (by assumption) hc
      | exact pl_3 G (by assumption)
      | exact hc.symm.trans (pl_4 G (by assumption))
      | exact (by assumption : (symAt _ _).isSome = false).symm.trans (pl_4 G (by assumption))
      | exact pl_5n G (by assumption) hc
      | exact pl_5a G (by assumption) (by assumption) (k := k) (by omega) (nt hc)
      | exact ⟨by omega, lt_next hk.2 (nf hc)⟩
      | exact pl_5y G (by assumption) (by assumption) (fun j hj => hk.2 j (by omega))
      | exact pl_6y G (by assumption) (by assumption) (by assumption)
      | exact pl_6o G (by assumption) hc
      | exact pl_6n G (by assumption) (by assumption)
      | exact pl_7y G (by assumption) hc
      | exact pl_7n G (by assumption) hc
      | exact pl_8n G (by assumption) (by omega)
      | exact pl_8k G (by assumption) (nt hc)
      | exact pl_8e G (by assumption) (nt hc)
      | exact pl_8a G (by assumption) hj.2.1 (by assumption) hc
      | (refine ⟨.inl (by omega), by omega, fun i hi => ?_⟩
         rcases Nat.lt_or_ge (i + 1) j with e | e
         ·exact hj.2.2 i e
         ·rw [show i = ((j : Int) - 1).toNat by omega, show ((j : Int) - 1).toNat + 1 = j by omega]; omega)
      | exact (nf (b := plainAll l (l.getD t.toNat nilT0).elem v.items) (by assumption)).symm.trans (pl_8y G (by assumption) (by omega) (nf (by assumption)) (fun i hi => hj.2.2 i (by omega)))
      | exact pl_9y G (by omega) hc
      | exact pl_9n G (by omega) hc
      | fail)
  | trace_state
mutual
theorem rfit_fn (l : List TypD) (hS : SchOk l) : ∀ (v : ValD), smV v → ∀ (t : Int), FnSound Tryz.prog 269 [.val true (schC l), .val false [.d (.v (.int .i64 t))], .val true (valC v), .val false [.d (.v (.bool true))]] [] { vals := [(false, [.d (.v (.bool (plainP l t v)))])] }
 | .mk k b n s i ks is rs, h, t => by
  unfold smV at h
  exact rfit1 l hS t (.mk k b n s i ks is rs) ⟨h.1.1, h.1.2.1, h.1.2.2.1⟩ (fun j hj => rg_all ks h.2.1 j _ (getD_eq hj)) (fun t j hj => rfit_all l hS is h.2.2 j _ (getD_eq hj) t) (fun t => rall_fn l t is h.1.2.1 (fun j hj => rfit_all l hS is h.2.2 j _ (getD_eq hj) t)) (fun t => rall_fn l t ks h.1.1 (fun j hj => rfit_all l hS ks h.2.1 j _ (getD_eq hj) t))
theorem rfit_all (l : List TypD) (hS : SchOk l) : ∀ (vs : List ValD), smVs vs → ∀ (j : Nat) (v : ValD), vs[j]? = some v → ∀ (t : Int), FnSound Tryz.prog 269 [.val true (schC l), .val false [.d (.v (.int .i64 t))], .val true (valC v), .val false [.d (.v (.bool true))]] [] { vals := [(false, [.d (.v (.bool (plainP l t v)))])] }
 | [], _, j, v, hv, t => by simp at hv
 | x :: r, h, j, v, hv, t => by
  unfold smVs at h
  match j with
  | 0 => simp at hv; subst hv; exact rfit_fn l hS x h.1 t
  | j + 1 => exact rfit_all l hS r h.2 j v (by simpa using hv) t
end
theorem rplain8_fn (l : List TypD) (hS : SchOk l) (t : Int) (v : ValD) (hv : smV v) : FnSound Tryz.prog 208 [.val true (schC l), .val false [.d (.v (.int .i64 t))], .val true (valC v)] [] { vals := [(false, [.d (.v (.bool (plainP l t v)))])] } := by
 have h := rfit_fn l hS v hv t
 refine startW (tm := [(0, _), (1, _), (2, _)]) Tryz.func208 rfl Tryz.ntmps208 rfl rfl rfl rfl ?_
 repeat' (first
 |(with_reducible refine K_ca 269 ?_); refine zC (h) ?_
 |refine wA ?_
 |(refine wC ?_ ?_ <;> intro hc)
 |refine wB ?_ ?_
 |(with_reducible refine JL.block ?_)
 |(with_reducible refine F_at ?_); refine eW (vs := [(_, _)]) Tryz.results208 ?_; (focus (repeat' (first | exact oA | refine oB ?_ | refine oC ?_ ?_ | fail)))
 |exact oM
 |fail)
 all_goals first | rfl | trace_state
end Go.Proofs.YtjpdemikmdfonaaGreatDoor

