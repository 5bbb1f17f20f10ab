/- Rules of runs and contracts of functions, for the claims of one seat. -/
import Derived.Test.YtgehafnodibhpaaGreatDoorPA12
import Derived.Test.YtgehafnodibhpaaGreatDoorPA14
import Derived.Test.YtgehafnodibhpaaGreatDoorPA15
namespace Go.Proofs.YtgehafnodibhpaaGreatDoor
open Go Go.RowKit
set_option maxRecDepth 100000
set_option maxHeartbeats 8000000
set_option linter.unusedSimpArgs false
set_option linter.unusedVariables false
def nilQ : Int × ByteArray := (0, ByteArray.empty)
def befQ (q : List (Int × ByteArray)) : Nat → Int
 | 0 => 0
 | i + 1 => (q.getD i nilQ).1
def seenQ (q : List (Int × ByteArray)) (i : Nat) : List ByteArray := ((q.take i).map (·.2)).reverse
def leftQ (q : List (Int × ByteArray)) (i : Nat) : Bool := idsP (befQ q i) (seenQ q i) (q.drop i)
theorem leftQ_step {q : List (Int × ByteArray)} {i : Nat} (h : i < q.length) : leftQ q i = (decide (befQ q i < (q.getD i nilQ).1 ∧ 1 ≤ (q.getD i nilQ).1 ∧ (q.getD i nilQ).1 ≤ 1000) && isNameP (q.getD i nilQ).2 && !(seenQ q i).any (fun m => decide (m = (q.getD i nilQ).2)) && leftQ q (i + 1)) := by
 have e : q.drop i = q.getD i nilQ :: q.drop (i + 1) := by
  rw [List.drop_eq_getElem_cons h]
  simp [List.getD, h]
 have e2 : seenQ q (i + 1) = (q.getD i nilQ).2 :: seenQ q i := by
  have e3 : q.take (i + 1) = q.take i ++ [q.getD i nilQ] := by
   rw [List.take_add_one]
   simp [List.getD, h]
  unfold seenQ
  rw [e3, List.map_append, List.reverse_append]
  rfl
 unfold leftQ
 rw [e2, e]
 rfl
theorem leftQ_end {q : List (Int × ByteArray)} : leftQ q q.length = true := by
 unfold leftQ
 rw [List.drop_length]
 rfl
theorem seen_no {q : List (Int × ByteArray)} {i : Nat} (hi : i ≤ q.length) (h : ∀ k, k < i → ¬ (q.getD k nilQ).2 = (q.getD i nilQ).2) : (seenQ q i).any (fun m => decide (m = (q.getD i nilQ).2)) = false := by
 unfold seenQ
 rw [List.any_reverse, List.any_eq_false]
 intro m hm
 obtain ⟨x, hx, rfl⟩ := List.mem_map.1 hm
 obtain ⟨k, hk, rfl⟩ := List.getElem_of_mem hx
 rw [List.length_take] at hk
 have := h k (by omega)
 simpa [List.getD, show k < q.length by omega] using this
theorem seen_yes {q : List (Int × ByteArray)} {i k : Nat} (hk : k < i) (hi : i ≤ q.length) (h : (q.getD k nilQ).2 = (q.getD i nilQ).2) : (seenQ q i).any (fun m => decide (m = (q.getD i nilQ).2)) = true := by
 unfold seenQ
 rw [List.any_reverse, List.any_eq_true]
 refine ⟨(q.getD k nilQ).2, List.mem_map.2 ⟨q.getD k nilQ, ?_, rfl⟩, decide_eq_true h⟩
 rw [List.mem_take_iff_getElem]
 refine ⟨k, by omega, ?_⟩
 simp [List.getD, show k < q.length by omega]
theorem q_id {q : List (Int × ByteArray)} {i : Nat} (h : i < q.length) (hc : ¬ (befQ q i < (q.getD i nilQ).1 ∧ 1 ≤ (q.getD i nilQ).1 ∧ (q.getD i nilQ).1 ≤ 1000)) : leftQ q i = false := by
 rw [leftQ_step h, decide_eq_false hc]; rfl
theorem q_nm {q : List (Int × ByteArray)} {i : Nat} (h : i < q.length) (hc : (!isNameP (q.getD i nilQ).2) = true) : leftQ q i = false := by
 have hc' : isNameP (q.getD i nilQ).2 = false := by simpa using hc
 rw [leftQ_step h, hc', Bool.and_false]; rfl
theorem q_dup {q : List (Int × ByteArray)} {i k : Nat} (h : i < q.length) (hk : k < i) (hc : (q.getD k nilQ).2 = (q.getD i nilQ).2) : leftQ q i = false := by
 rw [leftQ_step h, seen_yes hk (by omega) hc, Bool.not_true, Bool.and_false]; rfl
theorem q_ok {q : List (Int × ByteArray)} {i : Nat} (h : i < q.length) (h1 : befQ q i < (q.getD i nilQ).1 ∧ 1 ≤ (q.getD i nilQ).1 ∧ (q.getD i nilQ).1 ≤ 1000) (h2 : (!isNameP (q.getD i nilQ).2) = false) (h3 : ∀ k, k < i → ¬ (q.getD k nilQ).2 = (q.getD i nilQ).2) : leftQ q i = leftQ q (i + 1) := by
 have h2' : isNameP (q.getD i nilQ).2 = true := by simpa using h2
 rw [leftQ_step h, decide_eq_true h1, h2', seen_no (by omega) h3]; rfl
def symQ (l : List SymD) : List (Int × ByteArray) := l.map fun x => (x.id, x.name)
theorem symQ_get {l : List SymD} {k : Nat} (h : k < l.length) : (symQ l).getD k nilQ = ((l.getD k nilSy).id, (l.getD k nilSy).name) := by
 simp [symQ, List.getD, h]
theorem symQ_len (l : List SymD) : (symQ l).length = l.length := List.length_map _
theorem syms_no {l : List SymD} {i : Nat} (h0 : leftQ (symQ l) 0 = leftQ (symQ l) i) (h : leftQ (symQ l) i = false) : false = symsP l := by
 rw [h] at h0
 have : symsP l = (decide (l ≠ []) && leftQ (symQ l) 0 && decide (l.length ≤ 16)) := rfl
 rw [this, h0, Bool.and_false]; rfl
theorem syms_yes {l : List SymD} {i : Nat} (h0 : leftQ (symQ l) 0 = leftQ (symQ l) i) (hi : i = l.length) (h1 : (1 : Int) ≤ l.length) : decide ((l.length : Int) ≤ 16) = symsP l := by
 have : symsP l = (decide (l ≠ []) && leftQ (symQ l) 0 && decide (l.length ≤ 16)) := rfl
 have e := leftQ_end (q := symQ l)
 rw [symQ_len, ← hi] at e
 rw [this, h0, e, decide_eq_true (show l ≠ [] from fun h => by rw [h] at h1; simp at h1)]
 simp only [Bool.true_and]
 exact decide_eq_decide.2 (by omega)
theorem syms_nil {l : List SymD} (h : ¬ (1 : Int) ≤ l.length) : false = symsP l := by
 have : l = [] := List.length_eq_zero_iff.1 (by omega)
 subst this; rfl
theorem lt_next {n : Nat} {p : Nat → Prop} (h : ∀ j, j < n → p j) (hn : p n) : ∀ j, j < n + 1 → p j := fun j hj => by
 rcases Nat.lt_or_ge j n with g | g
 ·exact h j g
 ·obtain rfl : j = n := by omega
  exact hn
theorem rsymbols_fn (l : List SymD) (hl : l.length ≤ 5900000000000) : FnSound Tryz.prog 207 [.val false [.d (.sl 2 (dSyms l))]] [] { vals := [(false, [.d (.v (.bool (symsP l)))])] } := by
 have g := fun (k : Nat) (h : k < l.length) => symQ_get (l := l) h
 have hn := symQ_len l
 refine startW (tm := [(0, _)]) Tryz.func207 rfl Tryz.ntmps207 rfl rfl rfl rfl ?_
 repeat' (first
 |(with_reducible refine rgn 5 500 ?_ ?_); exact rfl
 |(with_reducible refine rgn 6 600 ?_ ?_); exact rfl
 |(with_reducible refine rgn 7 700 ?_ ?_); exact rfl
 |(with_reducible refine rgn 8 800 ?_ ?_); exact rfl
 |(with_reducible refine rgn 10 900 ?_ ?_); exact rfl
 |(with_reducible refine rgn 11 1000 ?_ ?_); exact rfl
 |(with_reducible refine rgn 9 1100 ?_ ?_); exact rfl
 |(with_reducible refine rgn 12 1200 ?_ ?_); exact rfl
 |(with_reducible refine rgn 4 1300 ?_ ?_); exact rfl
 |(with_reducible refine K_ca 259 ?_); refine zC (r7id_fn _ _) ?_
 |(with_reducible refine K_ca 14 ?_); refine zC (rname_fn _) ?_
 |(with_reducible refine blk_at (id := 0) ?_); ((with_reducible refine JL.loopW 0 399 (fun (i : Nat) tm => (3, .one false [.d (.v (.int .i64 ((befQ (symQ l) i))))]) :: (4, .one false [.d (.v (.int .i64 ((i : Int))))]) :: tm) (fun (i : Nat) bo => bo) (fun (i : Nat) => i ≤ l.length ∧ leftQ (symQ l) 0 = leftQ (symQ l) i) (fun (i : Nat) => l.length - i) (0) ?_ (fun i hi => ?_) ?_); (focus (apply SubW [] rfl ?_ ?_ rfl ?_; (repeat' (first | exact kA | refine kB ?_ | refine kC ?_ ?_ | exact kD | fail)))))
 |((with_reducible refine round_next (i := i) (i + 1) ?_ ?_ ?_); (focus (apply SubW [] rfl ?_ ?_ rfl ?_; (repeat' (first | exact kA | refine kB ?_ | refine kC ?_ ?_ | exact kD | fail)))))
 |(with_reducible refine blk_at (id := 2) ?_); ((with_reducible refine JL.loopW 2 799 (fun (k : Nat) tm => (5, .one false [.d (.v (.int .i64 ((k : Int))))]) :: tm) (fun (k : Nat) bo => bo) (fun (k : Nat) => k ≤ i ∧ ∀ j, j < k → ¬ (l.getD j nilSy).name = (l.getD i nilSy).name) (fun (k : Nat) => i - k) (0) ?_ (fun k hk => ?_) ?_); (focus (apply SubW [] rfl ?_ ?_ rfl ?_; (repeat' (first | exact kA | refine kB ?_ | refine kC ?_ ?_ | exact kD | fail)))))
 |((with_reducible refine round_next (i := k) (k + 1) ?_ ?_ ?_); (focus (apply SubW [] rfl ?_ ?_ rfl ?_; (repeat' (first | exact kA | refine kB ?_ | refine kC ?_ ?_ | exact kD | fail)))))
 |refine wA ?_
 |(refine wC ?_ ?_ <;> intro hc)
 |refine wB ?_ ?_
 |(with_reducible refine JL.block ?_)
 |(with_reducible refine F_at ?_); refine eW (vs := [(_, _)]) Tryz.results207 ?_; (focus (repeat' (first | exact oA | refine oB ?_ | refine oC ?_ ?_ | fail)))
 |exact oM
 |fail)
 all_goals first
  | rfl
  | omega
  | exact ⟨Nat.zero_le _, rfl⟩
  | exact ⟨Nat.zero_le _, fun j hj => absurd hj (Nat.not_lt_zero j)⟩
  | exact ⟨by omega, lt_next hk.2 hc⟩
  | exact syms_nil hc
  | exact syms_yes hi.2 (by omega) hc
  | (refine syms_no hi.2 (q_id (by omega) ?_); rw [g i (by omega)]; exact hc)
  | (refine syms_no hi.2 (q_nm (by omega) ?_); rw [g i (by omega)]; exact hc)
  | (refine syms_no hi.2 (q_dup (k := k) (by omega) (by omega) ?_); rw [g i (by omega), g k (by omega)]; exact hc)
  | (show _ = ((symQ l).getD i nilQ).1; rw [g i (by omega)]; done)
  | (refine ⟨by omega, hi.2.trans (q_ok (by omega) ?_ ?_ ?_)⟩
     ·rw [g i (by omega)]; assumption
     ·rw [g i (by omega)]; assumption
     ·intro j hj; rw [g i (by omega), g j (by omega)]; exact hk.2 j (by omega))
  | trace_state
end Go.Proofs.YtgehafnodibhpaaGreatDoor

namespace Go.Proofs.YtgehafnodibhpaaGreatDoor
open Go Go.RowKit
set_option maxRecDepth 100000
set_option maxHeartbeats 8000000
set_option linter.unusedSimpArgs false
set_option linter.unusedVariables false
def zeroC : List C := [.d (.v (.int .i64 0)), .d (.v (.bool false)), .d (.v (.int .i64 0)), .d (.v (.string ByteArray.empty)), .d (.v (.int .i64 0)), .zero, .zero, .zero]
theorem samevals_nil (l : List ValD) : FnSound Tryz.prog 313 [.val false [.d (.sl 8 (dVals l))], .val false [.zero]] [] { vals := [(false, [.d (.v (.bool l.isEmpty))])] } := by
 refine startW (tm := [(0, _), (1, _)]) Tryz.func313 rfl Tryz.ntmps313 rfl rfl rfl rfl ?_
 repeat' (first
 |(with_reducible refine rgn 6 600 ?_ ?_); exact rfl
 |(with_reducible refine rgn 7 700 ?_ ?_); exact rfl
 |(with_reducible refine rgn 5 800 ?_ ?_); exact rfl
 |(with_reducible refine blk_at (id := 0) ?_); ((with_reducible refine JL.loopW 0 499 (fun (k : Nat) tm => (5, .one false [.d (.v (.int .i64 ((k : Int))))]) :: tm) (fun (k : Nat) bo => bo) (fun (k : Nat) => k ≤ l.length ∧ l = []) (fun (k : Nat) => l.length - k) (0) ?_ (fun k hk => ?_) ?_); (focus (apply SubW [] rfl ?_ ?_ rfl ?_; (repeat' (first | exact kA | refine kB ?_ | refine kC ?_ ?_ | exact kD | fail)))))
 |((with_reducible refine round_next (i := k) (k + 1) ?_ ?_ ?_); (focus (apply SubW [] rfl ?_ ?_ rfl ?_; (repeat' (first | exact kA | refine kB ?_ | refine kC ?_ ?_ | exact kD | fail)))))
 |refine wA ?_
 |(refine wC ?_ ?_ <;> intro hc)
 |refine wB ?_ ?_
 |(with_reducible refine JL.block ?_)
 |(with_reducible refine F_at ?_); refine eW (vs := [(_, _)]) Tryz.results313 ?_; (focus (repeat' (first | exact oA | refine oB ?_ | refine oC ?_ ?_ | fail)))
 |exact oM
 |fail)
 all_goals first
  | rfl
  | omega
  | (rw [hk.2]; rfl)
  | exact ⟨Nat.zero_le _, List.length_eq_zero_iff.1 (by omega)⟩
  | (cases l with
     | nil => exact absurd rfl hc
     | cons x r => rfl)
  | trace_state
theorem blank_rest {v : ValD} (h : ¬ (v.rest.length : Int) = ((0 : Nat) : Int)) : false = blankP v := by
 unfold blankP
 cases hr : v.rest with
 | nil => rw [hr] at h; exact absurd rfl h
 | cons x r => simp
theorem sameblank_fn (v : ValD) : FnSound Tryz.prog 260 [.val true (valC v), .val true zeroC] [] { vals := [(false, [.d (.v (.bool (blankP v)))])] } := by
 refine startW (tm := [(0, _), (1, _)]) Tryz.func260 rfl Tryz.ntmps260 rfl rfl rfl rfl ?_
 repeat' (first
 |(with_reducible refine rgn 6 600 ?_ ?_); exact rfl
 |(with_reducible refine rgn 7 700 ?_ ?_); exact rfl
 |(with_reducible refine rgn 5 800 ?_ ?_); exact rfl
 |(with_reducible refine K_ca 313 ?_); refine zC (samevals_nil _) ?_
 |(with_reducible refine W_at ?_); (first
 |(refine W.neRaw rfl rfl rfl ?_)
 |(with_reducible refine W.consA ?_)
 |(with_reducible refine W.nilA ?_))
 |(with_reducible refine blk_at (id := 0) ?_); ((with_reducible refine JL.loopW 0 499 (fun (k : Nat) tm => (5, .one false [.d (.v (.int .i64 ((k : Int))))]) :: tm) (fun (k : Nat) bo => bo) (fun (k : Nat) => k ≤ v.rest.length ∧ v.rest = []) (fun (k : Nat) => v.rest.length - k) (0) ?_ (fun k hk => ?_) ?_); (focus (apply SubW [] rfl ?_ ?_ rfl ?_; (repeat' (first | exact kA | refine kB ?_ | refine kC ?_ ?_ | exact kD | fail)))))
 |((with_reducible refine round_next (i := k) (k + 1) ?_ ?_ ?_); (focus (apply SubW [] rfl ?_ ?_ rfl ?_; (repeat' (first | exact kA | refine kB ?_ | refine kC ?_ ?_ | exact kD | fail)))))
 |refine wA ?_
 |(refine wC ?_ ?_ <;> intro hc)
 |refine wB ?_ ?_
 |(with_reducible refine JL.block ?_)
 |(with_reducible refine F_at ?_); refine eW (vs := [(_, _)]) Tryz.results260 ?_; (focus (repeat' (first | exact oA | refine oB ?_ | refine oC ?_ ?_ | fail)))
 |exact oM
 |fail)
 all_goals first
  | rfl
  | omega
  | (exfalso; rw [hk.2] at hc; simp at hc; done)
  | exact ⟨Nat.zero_le _, List.length_eq_zero_iff.1 (by omega)⟩
  | exact blank_rest hc
  | (unfold blankP; simp_all; done)
  | trace_state
end Go.Proofs.YtgehafnodibhpaaGreatDoor

namespace Go.Proofs.YtgehafnodibhpaaGreatDoor
open Go Go.RowKit
set_option maxRecDepth 100000
set_option maxHeartbeats 8000000
set_option linter.unusedSimpArgs false
set_option linter.unusedVariables false
def memQ (l : List MemD) : List (Int × ByteArray) := l.map fun x => (x.id, x.name)
theorem memQ_get {l : List MemD} {k : Nat} (h : k < l.length) : (memQ l).getD k nilQ = ((l.getD k nilM0).id, (l.getD k nilM0).name) := by
 simp [memQ, List.getD, h]
theorem memQ_len (l : List MemD) : (memQ l).length = l.length := List.length_map _
theorem mems_eq (rec : Bool) (l : List MemD) : memsP rec l = (l.all (memP rec) && (rec || decide (l ≠ [])) && leftQ (memQ l) 0 && decide (l.length ≤ 16)) := rfl
theorem mems_bad {rec : Bool} {l : List MemD} {i : Nat} (hi : i < l.length) (h : memP rec (l.getD i nilM0) = false) : false = memsP rec l := by
 have : l.all (memP rec) = false := by
  rw [List.all_eq_false]
  refine ⟨l.getD i nilM0, ?_, by rw [h]; simp⟩
  simp [List.getD, hi]
 rw [mems_eq, this]; rfl
theorem mems_no {rec : Bool} {l : List MemD} {i : Nat} (h0 : leftQ (memQ l) 0 = leftQ (memQ l) i) (h : leftQ (memQ l) i = false) : false = memsP rec l := by
 rw [h] at h0
 rw [mems_eq, h0, Bool.and_false]; rfl
theorem mems_long {rec : Bool} {l : List MemD} (h : ¬ (l.length : Int) ≤ 16) : false = memsP rec l := by
 rw [mems_eq, decide_eq_false (show ¬ l.length ≤ 16 by omega), Bool.and_false]
theorem mems_end {rec : Bool} {l : List MemD} {i : Nat} (hi : i ≤ l.length ∧ leftQ (memQ l) 0 = leftQ (memQ l) i ∧ ∀ j, j < i → memP rec (l.getD j nilM0) = true) (he : ¬ (i : Int) < l.length) (h : (l.length : Int) ≤ 16) : (rec || decide (1 ≤ (l.length : Int))) = memsP rec l := by
 have h1 : l.all (memP rec) = true := by
  rw [List.all_eq_true]
  intro x hx
  obtain ⟨j, hj, rfl⟩ := List.getElem_of_mem hx
  have := hi.2.2 j (by omega)
  simpa [List.getD, hj] using this
 have e := leftQ_end (q := memQ l)
 rw [memQ_len, show l.length = i by omega] at e
 rw [mems_eq, h1, hi.2.1, e, decide_eq_true (show l.length ≤ 16 by omega)]
 simp only [Bool.true_and, Bool.and_true]
 congr 1
 refine decide_eq_decide.2 ⟨fun g hn => by rw [hn] at g; simp at g, fun g => ?_⟩
 have : l.length ≠ 0 := fun e => g (List.length_eq_zero_iff.1 e)
 omega
theorem rmembers_fn (l : List MemD) (rec : Bool) (hl : l.length ≤ 5900000000000) : FnSound Tryz.prog 208 [.val false [.d (.sl 13 (dMems l))], .val false [.d (.v (.bool rec))]] [] { vals := [(false, [.d (.v (.bool (memsP rec l)))])] } := by
 have g := fun (k : Nat) (h : k < l.length) => memQ_get (l := l) h
 have hn := memQ_len l
 refine startW (tm := [(0, _), (1, _)]) Tryz.func208 rfl Tryz.ntmps208 rfl rfl rfl rfl ?_
 repeat' (first
 |(with_reducible refine rgn 5 500 ?_ ?_); exact rfl
 |(with_reducible refine rgn 6 600 ?_ ?_); exact rfl
 |(with_reducible refine rgn 7 700 ?_ ?_); exact rfl
 |(with_reducible refine rgn 8 800 ?_ ?_); exact rfl
 |(with_reducible refine rgn 9 900 ?_ ?_); exact rfl
 |(with_reducible refine rgn 10 1000 ?_ ?_); exact rfl
 |(with_reducible refine rgn 11 1100 ?_ ?_); exact rfl
 |(with_reducible refine rgn 13 1200 ?_ ?_); exact rfl
 |(with_reducible refine rgn 14 1300 ?_ ?_); exact rfl
 |(with_reducible refine rgn 12 1400 ?_ ?_); exact rfl
 |(with_reducible refine rgn 15 1500 ?_ ?_); exact rfl
 |(with_reducible refine rgn 4 1600 ?_ ?_); exact rfl
 |(with_reducible refine K_ca 259 ?_); refine zC (r7id_fn _ _) ?_
 |(with_reducible refine K_ca 14 ?_); refine zC (rname_fn _) ?_
 |(with_reducible refine K_ca 260 ?_); refine zC (sameblank_fn _) ?_
 |(with_reducible refine W_at ?_); (first
 |(with_reducible refine W.consA ?_)
 |(with_reducible refine W.nilA ?_))
 |(with_reducible refine blk_at (id := 0) ?_); ((with_reducible refine JL.loopW 0 399 (fun (i : Nat) tm => (5, .one false [.d (.v (.int .i64 ((befQ (memQ l) i))))]) :: (6, .one false [.d (.v (.int .i64 ((i : Int))))]) :: tm) (fun (i : Nat) bo => bo) (fun (i : Nat) => i ≤ l.length ∧ leftQ (memQ l) 0 = leftQ (memQ l) i ∧ ∀ j, j < i → memP rec (l.getD j nilM0) = true) (fun (i : Nat) => l.length - i) (0) ?_ (fun i hi => ?_) ?_); (focus (apply SubW [] rfl ?_ ?_ rfl ?_; (repeat' (first | exact kA | refine kB ?_ | refine kC ?_ ?_ | exact kD | fail)))))
 |((with_reducible refine round_next (i := i) (i + 1) ?_ ?_ ?_); (focus (apply SubW [] rfl ?_ ?_ rfl ?_; (repeat' (first | exact kA | refine kB ?_ | refine kC ?_ ?_ | exact kD | fail)))))
 |(with_reducible refine blk_at (id := 2) ?_); ((with_reducible refine JL.loopW 2 1099 (fun (k : Nat) tm => (8, .one false [.d (.v (.int .i64 ((k : Int))))]) :: tm) (fun (k : Nat) bo => bo) (fun (k : Nat) => k ≤ i ∧ ∀ j, j < k → ¬ (l.getD j nilM0).name = (l.getD i nilM0).name) (fun (k : Nat) => i - k) (0) ?_ (fun k hk => ?_) ?_); (focus (apply SubW [] rfl ?_ ?_ rfl ?_; (repeat' (first | exact kA | refine kB ?_ | refine kC ?_ ?_ | exact kD | fail)))))
 |((with_reducible refine round_next (i := k) (k + 1) ?_ ?_ ?_); (focus (apply SubW [] rfl ?_ ?_ rfl ?_; (repeat' (first | exact kA | refine kB ?_ | refine kC ?_ ?_ | exact kD | fail)))))
 |refine wA ?_
 |(refine wC ?_ ?_ <;> intro hc)
 |refine wB ?_ ?_
 |(with_reducible refine JL.block ?_)
 |(with_reducible refine F_at ?_); refine eW (vs := [(_, _)]) Tryz.results208 ?_; (focus (repeat' (first | exact oA | refine oB ?_ | refine oC ?_ ?_ | fail)))
 |exact oM
 |fail)
 all_goals first
  | rfl
  | omega
  | exact ⟨Nat.zero_le _, rfl, fun j hj => absurd hj (Nat.not_lt_zero j)⟩
  | exact ⟨Nat.zero_le _, fun j hj => absurd hj (Nat.not_lt_zero j)⟩
  | exact ⟨by omega, lt_next hk.2 hc⟩
  | exact mems_long hc
  | (rw [← mems_end hi ‹_› ‹_›]; simp_all; done)
  | (refine mems_no hi.2.1 (q_id (by omega) ?_); rw [g i (by omega)]; exact hc)
  | (refine mems_no hi.2.1 (q_nm (by omega) ?_); rw [g i (by omega)]; exact hc)
  | (refine mems_no hi.2.1 (q_dup (k := k) (by omega) (by omega) ?_); rw [g i (by omega), g k (by omega)]; exact hc)
  | (refine mems_bad (i := i) (by omega) ?_; unfold memP; simp_all; done)
  | (show _ = ((memQ l).getD i nilQ).1; rw [g i (by omega)]; done)
  | (refine ⟨by omega, hi.2.1.trans (q_ok (by omega) ?_ ?_ ?_), lt_next hi.2.2 ?_⟩
     ·rw [g i (by omega)]; assumption
     ·rw [g i (by omega)]; assumption
     ·intro j hj; rw [g i (by omega), g j (by omega)]; exact hk.2 j (by omega)
     ·unfold memP; simp_all; done)
  | trace_state
end Go.Proofs.YtgehafnodibhpaaGreatDoor

namespace Go.Proofs.YtgehafnodibhpaaGreatDoor
open Go Go.RowKit
set_option maxRecDepth 100000
set_option maxHeartbeats 8000000
set_option linter.unusedSimpArgs false
set_option linter.unusedVariables false
theorem rown_fn (t : TypD) (hl : t.syms.length ≤ 5900000000000 ∧ t.mems.length ≤ 5900000000000) (hv : ∀ k, k < t.mems.length → smV (t.mems.getD k nilM0).dflt) : FnSound Tryz.prog 141 [.val true (typC t)] [] { vals := [(false, [.d (.v (.bool (formP t)))])] } := by
 refine startW (tm := [(0, _)]) Tryz.func141 rfl Tryz.ntmps141 rfl rfl rfl rfl ?_
 repeat' (first
 |(with_reducible refine K_ca 206 ?_); refine zC (rplain_fn t) ?_
 |(with_reducible refine K_ca 205 ?_); refine zC (sameplain_fn t (by omega) hl hv) ?_
 |(with_reducible refine K_ca 142 ?_); refine zC (named_fn _) ?_
 |(with_reducible refine K_ca 14 ?_); refine zC (rname_fn _) ?_
 |(with_reducible refine K_ca 207 ?_); refine zC (rsymbols_fn _ hl.1) ?_
 |(with_reducible refine K_ca 208 ?_); refine zC (rmembers_fn _ _ hl.2) ?_
 |(with_reducible refine W_at ?_); (first
 |(with_reducible refine W.consA ?_)
 |(with_reducible refine W.nilA ?_))
 |refine wA ?_
 |(refine wC ?_ ?_ <;> intro hc)
 |refine wB ?_ ?_
 |(with_reducible refine JL.block ?_)
 |(with_reducible refine F_at ?_); refine eW (vs := [(_, _)]) Tryz.results141 ?_; (focus (repeat' (first | exact oA | refine oB ?_ | refine oC ?_ ?_ | fail)))
 |exact oM
 |fail)
 all_goals first | rfl | omega | (unfold formP; simp_all; done) | (unfold formP; simp_all; omega) | trace_state
end Go.Proofs.YtgehafnodibhpaaGreatDoor

namespace Go.Proofs.YtgehafnodibhpaaGreatDoor
open Go Go.RowKit
set_option linter.unusedVariables false
set_option linter.unusedSimpArgs false
def nAt (n : List Int) (i : Int) : Int := n.getD i.toNat 0
def recC (n : List Int) (l : List MemD) : Int := l.foldl (fun c m => min 2 (c * nAt n m.typ)) 1
def uniC (n : List Int) (l : List MemD) : Int := l.foldl (fun c m => min 2 (c + nAt n m.typ)) 0
def uniS (n : List Int) (l : List MemD) : Int := l.foldl (fun c m => c + nAt n m.typ) 0
def countR (n : List Int) (t : TypD) : Int :=
 if t.kind = 2 then (if t.low = t.high then 1 else 2)
 else if t.kind = 3 then (if t.max = 0 then 1 else 2)
 else if t.kind = 4 then min 2 (t.syms.length : Int)
 else if t.kind = 5 then recC n t.mems
 else if t.kind = 6 then uniC n t.mems
 else if t.kind = 7 ∨ t.kind = 8 then (if t.max = 0 ∨ nAt n t.elem = 0 then 1 else 2)
 else if t.kind = 9 then min 2 (1 + nAt n t.elem)
 else 2
def countQ (n : List Int) (t : TypD) : Int :=
 if t.kind = 2 then (if t.low = t.high then 1 else 2)
 else if t.kind = 3 then (if t.max = 0 then 1 else 2)
 else if t.kind = 4 then (t.syms.length : Int)
 else if t.kind = 5 then recC n t.mems
 else if t.kind = 6 then uniS n t.mems
 else if t.kind = 7 then (if t.max = 0 ∨ nAt n t.elem = 0 then 1 else 2)
 else if t.kind = 8 then (if t.max = 0 ∨ nAt n t.elem = 0 ∨ nAt n t.key = 0 then 1 else 2)
 else if t.kind = 9 then 1 + nAt n t.elem
 else 2
def countQ2 (n : List Int) (t : TypD) : Int := min 2 (countQ n t)
def okN (n : List Int) : Prop := ∀ i : Nat, 0 ≤ n.getD i 0 ∧ n.getD i 0 ≤ 2
def leN (n n' : List Int) : Prop := ∀ i : Nat, n.getD i 0 ≤ n'.getD i 0
def posG (S : Int → Prop) (t : TypD) : Prop :=
 (t.kind = 5 → ∀ m ∈ t.mems, S m.typ) ∧ (t.kind = 6 → ∃ m ∈ t.mems, S m.typ) ∧ (t.kind = 4 → t.syms ≠ [])
theorem posG_mono {S T : Int → Prop} {t : TypD} (h : ∀ i, S i → T i) (hp : posG S t) : posG T t :=
 ⟨fun h5 m hm => h _ (hp.1 h5 m hm), fun h6 => (hp.2.1 h6).elim fun m hm => ⟨m, hm.1, h _ hm.2⟩, hp.2.2⟩
theorem min2_mul {a b : Int} (ha : 0 ≤ a ∧ a ≤ 2) (hb : 0 ≤ b ∧ b ≤ 2) : 0 ≤ min 2 (a * b) ∧ min 2 (a * b) ≤ 2 ∧ (0 < min 2 (a * b) ↔ 0 < a ∧ 0 < b) := by
 have h : a = 0 ∨ a = 1 ∨ a = 2 := by omega
 rcases h with rfl | rfl | rfl <;> omega
theorem min2_mul_le {a b a' b' : Int} (ha : 0 ≤ a ∧ a ≤ 2) (hb : 0 ≤ b ∧ b ≤ 2) (h1 : a ≤ a') (h2 : b ≤ b') (ha' : a' ≤ 2) (_ : b' ≤ 2) : min 2 (a * b) ≤ min 2 (a' * b') := by
 have h : a = 0 ∨ a = 1 ∨ a = 2 := by omega
 have h' : a' = 0 ∨ a' = 1 ∨ a' = 2 := by omega
 rcases h with rfl | rfl | rfl <;> rcases h' with rfl | rfl | rfl <;> omega
theorem recC_fold {n : List Int} (hn : okN n) : ∀ (l : List MemD) (c : Int), 0 ≤ c ∧ c ≤ 2 →
    (0 ≤ l.foldl (fun c m => min 2 (c * nAt n m.typ)) c ∧ l.foldl (fun c m => min 2 (c * nAt n m.typ)) c ≤ 2) ∧ (0 < l.foldl (fun c m => min 2 (c * nAt n m.typ)) c ↔ 0 < c ∧ ∀ m ∈ l, 0 < nAt n m.typ)
 | [], c, hc => ⟨hc, by simp⟩
 | m :: r, c, hc => by
  have h1 := min2_mul hc (hn m.typ.toNat)
  have h2 := recC_fold hn r (min 2 (c * nAt n m.typ)) ⟨h1.1, h1.2.1⟩
  refine ⟨h2.1, h2.2.trans ?_⟩
  have h3 := h1.2.2
  constructor
  ·rintro ⟨a, b⟩
   exact ⟨(h3.1 a).1, fun x hx => by
    rcases List.mem_cons.1 hx with rfl | hx
    ·exact (h3.1 a).2
    ·exact b x hx⟩
  ·rintro ⟨a, b⟩
   exact ⟨h3.2 ⟨a, b m (List.mem_cons_self ..)⟩, fun x hx => b x (List.mem_cons_of_mem _ hx)⟩
theorem recC_le {n n' : List Int} (hn : okN n) (hn' : okN n') (h : leN n n') : ∀ (l : List MemD) (c c' : Int), 0 ≤ c ∧ c ≤ 2 → c' ≤ 2 → c ≤ c' → l.foldl (fun c m => min 2 (c * nAt n m.typ)) c ≤ l.foldl (fun c m => min 2 (c * nAt n' m.typ)) c'
 | [], _, _, _, _, h => h
 | m :: r, c, c', hc, hc', hcc => by
  have h1 := min2_mul hc (hn m.typ.toNat)
  have h1' := min2_mul (a := c') (by omega) (hn' m.typ.toNat)
  exact recC_le hn hn' h r _ _ ⟨h1.1, h1.2.1⟩ h1'.2.1 (min2_mul_le hc (hn m.typ.toNat) hcc (h m.typ.toNat) hc' (hn' m.typ.toNat).2)
theorem uniC_fold {n : List Int} (hn : okN n) : ∀ (l : List MemD) (c : Int), 0 ≤ c ∧ c ≤ 2 →
    (0 ≤ l.foldl (fun c m => min 2 (c + nAt n m.typ)) c ∧ l.foldl (fun c m => min 2 (c + nAt n m.typ)) c ≤ 2) ∧ (0 < l.foldl (fun c m => min 2 (c + nAt n m.typ)) c ↔ 0 < c ∨ ∃ m ∈ l, 0 < nAt n m.typ)
 | [], c, hc => ⟨hc, by simp⟩
 | m :: r, c, hc => by
  have h0 := hn m.typ.toNat
  have h2 := uniC_fold hn r (min 2 (c + nAt n m.typ)) (by unfold nAt; omega)
  refine ⟨h2.1, h2.2.trans ?_⟩
  have h3 : 0 < min 2 (c + nAt n m.typ) ↔ 0 < c ∨ 0 < nAt n m.typ := by unfold nAt; omega
  rw [h3, or_assoc]
  simp
theorem uniC_le {n n' : List Int} (h : leN n n') : ∀ (l : List MemD) (c c' : Int), c ≤ c' → l.foldl (fun c m => min 2 (c + nAt n m.typ)) c ≤ l.foldl (fun c m => min 2 (c + nAt n' m.typ)) c'
 | [], _, _, h => h
 | m :: r, c, c', hcc => by
  have := h m.typ.toNat
  exact uniC_le h r _ _ (by show min 2 (c + nAt n m.typ) ≤ min 2 (c' + nAt n' m.typ); unfold nAt; omega)
theorem uniS_fold {n : List Int} (hn : okN n) : ∀ (l : List MemD) (c : Int), 0 ≤ c →
    (c ≤ l.foldl (fun c m => c + nAt n m.typ) c ∧ l.foldl (fun c m => c + nAt n m.typ) c ≤ c + 2 * l.length) ∧ (0 < l.foldl (fun c m => c + nAt n m.typ) c ↔ 0 < c ∨ ∃ m ∈ l, 0 < nAt n m.typ)
 | [], c, hc => ⟨by simp, by simp⟩
 | m :: r, c, hc => by
  have h0 := hn m.typ.toNat
  have h2 := uniS_fold hn r (c + nAt n m.typ) (by unfold nAt; omega)
  have h4 : 0 ≤ nAt n m.typ ∧ nAt n m.typ ≤ 2 := h0
  refine ⟨⟨by have := h2.1.1; simp only [List.foldl_cons]; omega, by have := h2.1.2; simp only [List.foldl_cons, List.length_cons]; omega⟩, h2.2.trans ?_⟩
  have h3 : 0 < c + nAt n m.typ ↔ 0 < c ∨ 0 < nAt n m.typ := by omega
  rw [h3, or_assoc]
  simp
theorem uniS_le {n n' : List Int} (h : leN n n') : ∀ (l : List MemD) (c c' : Int), c ≤ c' → l.foldl (fun c m => c + nAt n m.typ) c ≤ l.foldl (fun c m => c + nAt n' m.typ) c'
 | [], _, _, h => h
 | m :: r, c, c', hcc => by
  have := h m.typ.toNat
  exact uniS_le h r _ _ (by show c + nAt n m.typ ≤ c' + nAt n' m.typ; unfold nAt; omega)
structure CntOk (c : List Int → TypD → Int) : Prop where
 rng : ∀ n t, okN n → 0 ≤ c n t ∧ c n t ≤ 2
 pos : ∀ n t, okN n → (0 < c n t ↔ posG (fun i => 0 < nAt n i) t)
 mono : ∀ n n' t, okN n → okN n' → leN n n' → c n t ≤ c n' t
theorem syms_pos {l : List SymD} : 0 < (l.length : Int) ↔ l ≠ [] := by
 cases l with
 | nil => simp
 | cons x r => simp
theorem cntR_ok : CntOk countR where
 rng n t hn := by
  have h5 := (recC_fold hn t.mems 1 (by omega)).1
  have h6 := (uniC_fold hn t.mems 0 (by omega)).1
  have h9 := hn t.elem.toNat
  unfold countR recC uniC nAt at *
  (repeat' split) <;> omega
 pos n t hn := by
  have h5 := (recC_fold hn t.mems 1 (by omega)).2
  have h6 := (uniC_fold hn t.mems 0 (by omega)).2
  have h9 := hn t.elem.toNat
  have h4 := syms_pos (l := t.syms)
  simp only [Int.zero_lt_one, true_and, Int.lt_irrefl, false_or] at h5 h6
  unfold countR posG
  by_cases k4 : t.kind = 4
  ·simp only [k4, show ¬ (4 : Int) = 2 by omega, show ¬ (4 : Int) = 3 by omega, show ¬ (4 : Int) = 5 by omega, show ¬ (4 : Int) = 6 by omega, if_true, if_false, false_implies, true_and, true_implies]
   rw [← h4]; omega
  ·by_cases k5 : t.kind = 5
   ·simp only [k5, show ¬ (5 : Int) = 2 by omega, show ¬ (5 : Int) = 3 by omega, show ¬ (5 : Int) = 4 by omega, show ¬ (5 : Int) = 6 by omega, if_true, if_false, false_implies, and_true, true_implies]
    exact h5
   ·by_cases k6 : t.kind = 6
    ·simp only [k6, show ¬ (6 : Int) = 2 by omega, show ¬ (6 : Int) = 3 by omega, show ¬ (6 : Int) = 4 by omega, show ¬ (6 : Int) = 5 by omega, if_true, if_false, false_implies, and_true, true_and, true_implies]
     exact h6
    ·simp only [k4, k5, k6, if_false, false_implies, and_self, iff_true]
     unfold nAt
     (repeat' split) <;> omega
 mono n n' t hn hn' h := by
  have h5 := recC_le hn hn' h t.mems 1 1 (by omega) (by omega) (by omega)
  have h6 := uniC_le h t.mems 0 0 (by omega)
  have h9 := h t.elem.toNat
  have h8 := hn t.elem.toNat
  unfold countR recC uniC nAt at *
  (repeat' split) <;> omega
theorem cntQ_ok : CntOk countQ2 where
 rng n t hn := by
  have h5 := (recC_fold hn t.mems 1 (by omega)).1
  have h6 := (uniS_fold hn t.mems 0 (by omega)).1
  have h9 := hn t.elem.toNat
  unfold countQ2 countQ recC uniS nAt at *
  (repeat' split) <;> omega
 pos n t hn := by
  have h5 := (recC_fold hn t.mems 1 (by omega)).2
  have h6 := (uniS_fold hn t.mems 0 (by omega)).2
  have h9 := hn t.elem.toNat
  have h4 := syms_pos (l := t.syms)
  simp only [Int.zero_lt_one, true_and, Int.lt_irrefl, false_or] at h5 h6
  unfold countQ2 countQ posG
  by_cases k4 : t.kind = 4
  ·simp only [k4, show ¬ (4 : Int) = 2 by omega, show ¬ (4 : Int) = 3 by omega, show ¬ (4 : Int) = 5 by omega, show ¬ (4 : Int) = 6 by omega, if_true, if_false, false_implies, true_and, true_implies]
   rw [← h4]; omega
  ·by_cases k5 : t.kind = 5
   ·simp only [k5, show ¬ (5 : Int) = 2 by omega, show ¬ (5 : Int) = 3 by omega, show ¬ (5 : Int) = 4 by omega, show ¬ (5 : Int) = 6 by omega, if_true, if_false, false_implies, and_true, true_implies]
    unfold recC; rw [← h5]; omega
   ·by_cases k6 : t.kind = 6
    ·simp only [k6, show ¬ (6 : Int) = 2 by omega, show ¬ (6 : Int) = 3 by omega, show ¬ (6 : Int) = 4 by omega, show ¬ (6 : Int) = 5 by omega, if_true, if_false, false_implies, and_true, true_and, true_implies]
     unfold uniS; rw [← h6]; omega
    ·simp only [k4, k5, k6, if_false, false_implies, and_self, iff_true]
     unfold nAt
     (repeat' split) <;> omega
 mono n n' t hn hn' h := by
  have h5 := recC_le hn hn' h t.mems 1 1 (by omega) (by omega) (by omega)
  have h6 := uniS_le h t.mems 0 0 (by omega)
  have h9 := h t.elem.toNat
  have h8 := hn t.elem.toNat
  have g9 := h t.key.toNat
  have g8 := hn t.key.toNat
  unfold countQ2 countQ recC uniS nAt at *
  (repeat' split) <;> omega
def passN (c : List Int → TypD → Int) (l : List TypD) (n : List Int) : Nat → List Int
 | 0 => n
 | i + 1 => (passN c l n i).set i (c (passN c l n i) (l.getD i nilT0))
def passA (c : List Int → TypD → Int) (l : List TypD) (n : List Int) : List Int := passN c l n l.length
def iterA (c : List Int → TypD → Int) (l : List TypD) : Nat → List Int
 | 0 => List.replicate l.length 0
 | k + 1 => passA c l (iterA c l k)
def countsA (c : List Int → TypD → Int) (l : List TypD) : List Int := iterA c l (2 * l.length + 1)
def closedG (l : List TypD) (T : Int → Prop) : Prop := ∀ i : Nat, i < l.length → posG T (l.getD i nilT0) → T i
structure InvN (c : List Int → TypD → Int) (l : List TypD) (n : List Int) : Prop where
 len : n.length = l.length
 ok : okN n
 up : ∀ i : Nat, i < l.length → n.getD i 0 ≤ c n (l.getD i nilT0)
 least : ∀ T : Int → Prop, (∀ i, T i ↔ T (i.toNat : Int)) → closedG l T → ∀ i : Int, 0 < nAt n i → T i
theorem set_getD {n : List Int} {i j : Nat} {v : Int} : (n.set i v).getD j 0 = if i = j ∧ i < n.length then v else n.getD j 0 := by
 simp only [List.getD_eq_getElem?_getD, List.getElem?_set]
 by_cases h : i = j
 ·subst h
  by_cases h2 : i < n.length
  ·simp [h2]
  ·simp [h2]
 ·simp [h]
theorem InvN.step {c : List Int → TypD → Int} (hc : CntOk c) {l : List TypD} {n : List Int} (h : InvN c l n) {i : Nat} (hi : i < l.length) : InvN c l (n.set i (c n (l.getD i nilT0))) ∧ leN n (n.set i (c n (l.getD i nilT0))) := by
 have hil : i < n.length := by rw [h.len]; exact hi
 have hok : okN (n.set i (c n (l.getD i nilT0))) := fun j => by
  rw [set_getD]
  split
  ·exact hc.rng n _ h.ok
  ·exact h.ok j
 have hle : leN n (n.set i (c n (l.getD i nilT0))) := fun j => by
  rw [set_getD]
  split
  ·rename_i e; rw [← e.1]; exact h.up i hi
  ·exact Int.le_refl _
 refine ⟨⟨by rw [List.length_set]; exact h.len, hok, fun j hj => ?_, fun T hT hcl j hj => ?_⟩, hle⟩
 ·have hm := hc.mono n _ (l.getD j nilT0) h.ok hok hle
  rw [set_getD]
  split
  ·rename_i e; rw [← e.1] at hm ⊢; exact hm
  ·exact Int.le_trans (h.up j hj) hm
 ·unfold nAt at hj
  rw [set_getD] at hj
  split at hj
  ·rename_i e
   have hp := (hc.pos n (l.getD i nilT0) h.ok).1 hj
   have := hcl i hi (posG_mono (fun k hk => h.least T hT hcl k hk) hp)
   rw [hT, ← e.1]; exact this
  ·exact h.least T hT hcl j hj
theorem leN.trans {a b c : List Int} (h : leN a b) (h' : leN b c) : leN a c := fun i => Int.le_trans (h i) (h' i)
theorem InvN.pass {c : List Int → TypD → Int} (hc : CntOk c) {l : List TypD} {n : List Int} (h : InvN c l n) : ∀ i, i ≤ l.length → InvN c l (passN c l n i) ∧ leN n (passN c l n i)
 | 0, _ => ⟨h, fun _ => Int.le_refl _⟩
 | i + 1, hi => by
  have h1 := InvN.pass hc h i (by omega)
  have h2 := h1.1.step hc (i := i) (by omega)
  exact ⟨h2.1, h1.2.trans h2.2⟩
theorem inv_zero {c : List Int → TypD → Int} (hc : CntOk c) (l : List TypD) : InvN c l (List.replicate l.length 0) := by
 have h0 : ∀ i : Nat, (List.replicate l.length (0 : Int)).getD i 0 = 0 := fun i => by
  rw [List.getD_eq_getElem?_getD, List.getElem?_replicate]; split <;> rfl
 have hok : okN (List.replicate l.length 0) := fun i => by rw [h0]; omega
 refine ⟨List.length_replicate, hok, fun i _ => by rw [h0]; exact (hc.rng _ _ hok).1, fun T _ _ i hi => ?_⟩
 unfold nAt at hi
 rw [h0] at hi; omega
theorem inv_iter {c : List Int → TypD → Int} (hc : CntOk c) (l : List TypD) : ∀ k, InvN c l (iterA c l k)
 | 0 => inv_zero hc l
 | k + 1 => ((inv_iter hc l k).pass hc l.length (Nat.le_refl _)).1
theorem nsum_le {a b : List Int} : a.length = b.length → leN a b → a.sum ≤ b.sum ∧ (a ≠ b → a.sum < b.sum) := by
 induction a generalizing b with
 | nil => intro hl _; cases b with
  | nil => simp
  | cons y s => simp at hl
 | cons x r ih => intro hl h; cases b with
  | nil => simp at hl
  | cons y s =>
   have h0 := h 0
   have h1 := ih (b := s) (by simpa using hl) fun i => by have := h (i + 1); simpa using this
   simp at h0
   simp only [List.sum_cons]
   refine ⟨by omega, fun hne => ?_⟩
   by_cases e : r = s
   ·subst e
    have : x ≠ y := fun e => hne (by rw [e])
    omega
   ·have := h1.2 e; omega
theorem sum_rng {a : List Int} : okN a → 0 ≤ a.sum ∧ a.sum ≤ 2 * a.length := by
 induction a with
 | nil => intro _; simp
 | cons x r ih =>
  intro h
  have h0 := h 0
  have h1 := ih fun i => by have := h (i + 1); simpa using this
  simp at h0
  simp only [List.sum_cons, List.length_cons]
  omega
theorem pass_sum {c : List Int → TypD → Int} (hc : CntOk c) {l : List TypD} {n : List Int} (h : InvN c l n) (hne : passA c l n ≠ n) : n.sum < (passA c l n).sum := by
 have h1 := h.pass hc l.length (Nat.le_refl _)
 exact (nsum_le (by rw [h.len]; exact h1.1.len.symm) h1.2).2 fun e => hne e.symm
theorem iter_fix {c : List Int → TypD → Int} {l : List TypD} {k : Nat} (h : passA c l (iterA c l k) = iterA c l k) : ∀ j, k ≤ j → iterA c l j = iterA c l k := by
 intro j hj
 induction j with
 | zero => have : k = 0 := by omega
           subst this; rfl
 | succ j ih =>
  rcases Nat.lt_or_eq_of_le hj with g | g
  ·show passA c l (iterA c l j) = _
   rw [ih (by omega)]; exact h
  ·rw [← g]
theorem iter_sum {c : List Int → TypD → Int} (hc : CntOk c) (l : List TypD) : ∀ k, passA c l (iterA c l k) = iterA c l k ∨ (k : Int) ≤ (iterA c l k).sum
 | 0 => .inr (sum_rng (inv_iter hc l 0).ok).1
 | k + 1 => by
  rcases iter_sum hc l k with h | h
  ·left
   have e : iterA c l (k + 1) = iterA c l k := h
   rw [e]; exact h
  ·by_cases g : passA c l (iterA c l k) = iterA c l k
   ·left
    have e : iterA c l (k + 1) = iterA c l k := g
    rw [e]; exact g
   ·right
    have := pass_sum hc (inv_iter hc l k) g
    show ((k + 1 : Nat) : Int) ≤ (passA c l (iterA c l k)).sum
    omega
theorem counts_fix {c : List Int → TypD → Int} (hc : CntOk c) (l : List TypD) : passA c l (countsA c l) = countsA c l := by
 rcases iter_sum hc l (2 * l.length + 1) with h | h
 ·exact h
 ·have h1 := sum_rng (inv_iter hc l (2 * l.length + 1)).ok
  rw [(inv_iter hc l (2 * l.length + 1)).len] at h1
  omega
theorem pass_at {c : List Int → TypD → Int} {l : List TypD} {n : List Int} (hn : n.length = l.length) : ∀ i, i ≤ l.length → (passN c l n i).length = l.length ∧ ∀ j, i ≤ j → (passN c l n i).getD j 0 = n.getD j 0
 | 0, _ => ⟨hn, fun _ _ => rfl⟩
 | i + 1, hi => by
  have h := pass_at (c := c) hn i (by omega)
  refine ⟨by unfold passN; rw [List.length_set]; exact h.1, fun j hj => ?_⟩
  unfold passN
  rw [set_getD, if_neg (by omega)]
  exact h.2 j (by omega)
theorem pass_keep {c : List Int → TypD → Int} {l : List TypD} {n : List Int} {j : Nat} : ∀ i, j < i → (passN c l n i).getD j 0 = (passN c l n (j + 1)).getD j 0
 | 0, h => absurd h (Nat.not_lt_zero _)
 | i + 1, h => by
  rcases Nat.lt_or_eq_of_le (Nat.le_of_lt_succ h) with g | g
  ·show ((passN c l n i).set i _).getD j 0 = _
   rw [set_getD, if_neg (by omega)]
   exact pass_keep i g
  ·rw [g]
theorem list_extI {a b : List Int} (hl : a.length = b.length) (h : ∀ j : Nat, a.getD j 0 = b.getD j 0) : a = b := by
 refine List.ext_getElem hl fun j h1 h2 => ?_
 have := h j
 simpa [List.getD, h1, h2] using this
theorem fix_at {c : List Int → TypD → Int} {l : List TypD} {n : List Int} (hn : n.length = l.length) (h : passA c l n = n) : ∀ i, i ≤ l.length → passN c l n i = n := by
 intro i hi
 have h1 := pass_at (c := c) hn i hi
 refine list_extI (by rw [h1.1, hn]) fun j => ?_
 rcases Nat.lt_or_ge j i with g | g
 ·have e1 := pass_keep (c := c) (l := l) (n := n) i g
  have e2 := pass_keep (c := c) (l := l) (n := n) l.length (Nat.lt_of_lt_of_le g hi)
  rw [e1, ← e2]
  show (passA c l n).getD j 0 = _
  rw [h]
 ·exact h1.2 j g
theorem fix_val {c : List Int → TypD → Int} {l : List TypD} {n : List Int} (hn : n.length = l.length) (h : passA c l n = n) {i : Nat} (hi : i < l.length) : n.getD i 0 = c n (l.getD i nilT0) := by
 have h1 := fix_at hn h (i + 1) hi
 have h2 := fix_at hn h i (by omega)
 unfold passN at h1
 rw [h2] at h1
 have := congrArg (fun x : List Int => x.getD i 0) h1
 simp only [set_getD, true_and] at this
 rw [if_pos (by omega)] at this
 exact this.symm
theorem fix_closed {c : List Int → TypD → Int} (hc : CntOk c) {l : List TypD} {n : List Int} (hi : InvN c l n) (h : passA c l n = n) : closedG l (fun i => 0 < nAt n i) := fun i hil hp => by
 show 0 < nAt n (i : Int)
 unfold nAt
 rw [Int.toNat_natCast, fix_val hi.len h hil]
 exact (hc.pos n _ hi.ok).2 hp
theorem counts_pos {c c' : List Int → TypD → Int} (hc : CntOk c) (hc' : CntOk c') (l : List TypD) (i : Int) (h : 0 < nAt (countsA c l) i) : 0 < nAt (countsA c' l) i :=
 (inv_iter hc l _).least (fun i => 0 < nAt (countsA c' l) i) (fun i => by unfold nAt; rw [Int.toNat_natCast]) (fix_closed hc' (inv_iter hc' l _) (counts_fix hc' l)) i h
def soundB (n : List Int) : Bool := n.all fun x => decide (0 < x)
theorem sound_eq {c c' : List Int → TypD → Int} (hc : CntOk c) (hc' : CntOk c') (l : List TypD) : soundB (countsA c l) = soundB (countsA c' l) := by
 have key : ∀ {c c' : List Int → TypD → Int}, CntOk c → CntOk c' → soundB (countsA c l) = true → soundB (countsA c' l) = true := fun {c c'} hc hc' h => by
  unfold soundB at h ⊢
  rw [List.all_eq_true] at h ⊢
  intro x hx
  obtain ⟨j, hj, rfl⟩ := List.getElem_of_mem hx
  have e1 := (inv_iter hc l (2 * l.length + 1)).len
  have e2 := (inv_iter hc' l (2 * l.length + 1)).len
  have hj' : j < (countsA c l).length := by unfold countsA at hj ⊢; omega
  have h1 := of_decide_eq_true (h _ (List.getElem_mem hj'))
  have h2 := counts_pos hc hc' l j (by unfold nAt; rw [Int.toNat_natCast]; simpa [List.getD, hj'] using h1)
  unfold nAt at h2
  rw [Int.toNat_natCast] at h2
  exact decide_eq_true (by simpa [List.getD, hj] using h2)
 rw [Bool.eq_iff_iff]
 exact ⟨key hc hc', key hc' hc⟩
end Go.Proofs.YtgehafnodibhpaaGreatDoor

