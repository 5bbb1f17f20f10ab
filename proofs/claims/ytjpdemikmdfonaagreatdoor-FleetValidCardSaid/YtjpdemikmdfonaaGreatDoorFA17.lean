/- Rules of runs and contracts of functions, for the claims of one seat. -/
import Derived.Test.YtjpdemikmdfonaaGreatDoorFA15
import Derived.Test.YtjpdemikmdfonaaGreatDoorFA16
namespace Go.Proofs.YtjpdemikmdfonaaGreatDoor
open Go Go.RowKit
set_option maxRecDepth 100000
set_option maxHeartbeats 8000000
set_option linter.unusedSimpArgs false
set_option linter.unusedVariables false
def nilQ : Int × ByteArray := (0, ByteArray.empty)
def befQ (q : List (Int × ByteArray)) : Nat → Int
 | 0 => 0
 | i + 1 => (q.getD i nilQ).1
def seenQ (q : List (Int × ByteArray)) (i : Nat) : List ByteArray := ((q.take i).map (·.2)).reverse
def leftQ (q : List (Int × ByteArray)) (i : Nat) : Bool := idsP (befQ q i) (seenQ q i) (q.drop i)
theorem leftQ_step {q : List (Int × ByteArray)} {i : Nat} (h : i < q.length) : leftQ q i = (decide (befQ q i < (q.getD i nilQ).1 ∧ 1 ≤ (q.getD i nilQ).1 ∧ (q.getD i nilQ).1 ≤ 1000) && isNameP (q.getD i nilQ).2 && !(seenQ q i).any (fun m => decide (m = (q.getD i nilQ).2)) && leftQ q (i + 1)) := by
 have e : q.drop i = q.getD i nilQ :: q.drop (i + 1) := by
  rw [List.drop_eq_getElem_cons h]
  simp [List.getD, h]
 have e2 : seenQ q (i + 1) = (q.getD i nilQ).2 :: seenQ q i := by
  have e3 : q.take (i + 1) = q.take i ++ [q.getD i nilQ] := by
   rw [List.take_add_one]
   simp [List.getD, h]
  unfold seenQ
  rw [e3, List.map_append, List.reverse_append]
  rfl
 unfold leftQ
 rw [e2, e]
 rfl
theorem leftQ_end {q : List (Int × ByteArray)} : leftQ q q.length = true := by
 unfold leftQ
 rw [List.drop_length]
 rfl
theorem seen_no {q : List (Int × ByteArray)} {i : Nat} (hi : i ≤ q.length) (h : ∀ k, k < i → ¬ (q.getD k nilQ).2 = (q.getD i nilQ).2) : (seenQ q i).any (fun m => decide (m = (q.getD i nilQ).2)) = false := by
 unfold seenQ
 rw [List.any_reverse, List.any_eq_false]
 intro m hm
 obtain ⟨x, hx, rfl⟩ := List.mem_map.1 hm
 obtain ⟨k, hk, rfl⟩ := List.getElem_of_mem hx
 rw [List.length_take] at hk
 have := h k (by omega)
 simpa [List.getD, show k < q.length by omega] using this
theorem seen_yes {q : List (Int × ByteArray)} {i k : Nat} (hk : k < i) (hi : i ≤ q.length) (h : (q.getD k nilQ).2 = (q.getD i nilQ).2) : (seenQ q i).any (fun m => decide (m = (q.getD i nilQ).2)) = true := by
 unfold seenQ
 rw [List.any_reverse, List.any_eq_true]
 refine ⟨(q.getD k nilQ).2, List.mem_map.2 ⟨q.getD k nilQ, ?_, rfl⟩, decide_eq_true h⟩
 rw [List.mem_take_iff_getElem]
 refine ⟨k, by omega, ?_⟩
 simp [List.getD, show k < q.length by omega]
theorem q_id {q : List (Int × ByteArray)} {i : Nat} (h : i < q.length) (hc : ¬ (befQ q i < (q.getD i nilQ).1 ∧ 1 ≤ (q.getD i nilQ).1 ∧ (q.getD i nilQ).1 ≤ 1000)) : leftQ q i = false := by
 rw [leftQ_step h, decide_eq_false hc]; rfl
theorem q_nm {q : List (Int × ByteArray)} {i : Nat} (h : i < q.length) (hc : (!isNameP (q.getD i nilQ).2) = true) : leftQ q i = false := by
 have hc' : isNameP (q.getD i nilQ).2 = false := by simpa using hc
 rw [leftQ_step h, hc', Bool.and_false]; rfl
theorem q_dup {q : List (Int × ByteArray)} {i k : Nat} (h : i < q.length) (hk : k < i) (hc : (q.getD k nilQ).2 = (q.getD i nilQ).2) : leftQ q i = false := by
 rw [leftQ_step h, seen_yes hk (by omega) hc, Bool.not_true, Bool.and_false]; rfl
theorem q_ok {q : List (Int × ByteArray)} {i : Nat} (h : i < q.length) (h1 : befQ q i < (q.getD i nilQ).1 ∧ 1 ≤ (q.getD i nilQ).1 ∧ (q.getD i nilQ).1 ≤ 1000) (h2 : (!isNameP (q.getD i nilQ).2) = false) (h3 : ∀ k, k < i → ¬ (q.getD k nilQ).2 = (q.getD i nilQ).2) : leftQ q i = leftQ q (i + 1) := by
 have h2' : isNameP (q.getD i nilQ).2 = true := by simpa using h2
 rw [leftQ_step h, decide_eq_true h1, h2', seen_no (by omega) h3]; rfl
def symQ (l : List SymD) : List (Int × ByteArray) := l.map fun x => (x.id, x.name)
theorem symQ_get {l : List SymD} {k : Nat} (h : k < l.length) : (symQ l).getD k nilQ = ((l.getD k nilSy).id, (l.getD k nilSy).name) := by
 simp [symQ, List.getD, h]
theorem symQ_len (l : List SymD) : (symQ l).length = l.length := List.length_map _
theorem syms_no {l : List SymD} {i : Nat} (h0 : leftQ (symQ l) 0 = leftQ (symQ l) i) (h : leftQ (symQ l) i = false) : false = symsP l := by
 rw [h] at h0
 have : symsP l = (decide (l ≠ []) && leftQ (symQ l) 0 && decide (l.length ≤ 16)) := rfl
 rw [this, h0, Bool.and_false]; rfl
theorem syms_yes {l : List SymD} {i : Nat} (h0 : leftQ (symQ l) 0 = leftQ (symQ l) i) (hi : i = l.length) (h1 : (1 : Int) ≤ l.length) : decide ((l.length : Int) ≤ 16) = symsP l := by
 have : symsP l = (decide (l ≠ []) && leftQ (symQ l) 0 && decide (l.length ≤ 16)) := rfl
 have e := leftQ_end (q := symQ l)
 rw [symQ_len, ← hi] at e
 rw [this, h0, e, decide_eq_true (show l ≠ [] from fun h => by rw [h] at h1; simp at h1)]
 simp only [Bool.true_and]
 exact decide_eq_decide.2 (by omega)
theorem syms_nil {l : List SymD} (h : ¬ (1 : Int) ≤ l.length) : false = symsP l := by
 have : l = [] := List.length_eq_zero_iff.1 (by omega)
 subst this; rfl
theorem lt_next {n : Nat} {p : Nat → Prop} (h : ∀ j, j < n → p j) (hn : p n) : ∀ j, j < n + 1 → p j := fun j hj => by
 rcases Nat.lt_or_ge j n with g | g
 ·exact h j g
 ·obtain rfl : j = n := by omega
  exact hn
theorem rsymbols_fn (l : List SymD) (hl : l.length ≤ 5900000000000) : FnSound Tryz.prog 211 [.val false [.d (.sl 2 (dSyms l))]] [] { vals := [(false, [.d (.v (.bool (symsP l)))])] } := by
 have g := fun (k : Nat) (h : k < l.length) => symQ_get (l := l) h
 have hn := symQ_len l
 refine startW (tm := [(0, _)]) Tryz.func211 rfl Tryz.ntmps211 rfl rfl rfl rfl ?_
 repeat' (first
 |(with_reducible refine rgn 5 500 ?_ ?_); exact rfl
 |(with_reducible refine rgn 6 600 ?_ ?_); exact rfl
 |(with_reducible refine rgn 7 700 ?_ ?_); exact rfl
 |(with_reducible refine rgn 8 800 ?_ ?_); exact rfl
 |(with_reducible refine rgn 10 900 ?_ ?_); exact rfl
 |(with_reducible refine rgn 11 1000 ?_ ?_); exact rfl
 |(with_reducible refine rgn 9 1100 ?_ ?_); exact rfl
 |(with_reducible refine rgn 12 1200 ?_ ?_); exact rfl
 |(with_reducible refine rgn 4 1300 ?_ ?_); exact rfl
 |(with_reducible refine K_ca 271 ?_); refine zC (r7id_fn _ _) ?_
 |(with_reducible refine K_ca 20 ?_); refine zC (rname_fn _) ?_
 |(with_reducible refine blk_at (id := 0) ?_); ((with_reducible refine JL.loopW 0 399 (fun (i : Nat) tm => (3, .one false [.d (.v (.int .i64 ((befQ (symQ l) i))))]) :: (4, .one false [.d (.v (.int .i64 ((i : Int))))]) :: tm) (fun (i : Nat) bo => bo) (fun (i : Nat) => i ≤ l.length ∧ leftQ (symQ l) 0 = leftQ (symQ l) i) (fun (i : Nat) => l.length - i) (0) ?_ (fun i hi => ?_) ?_); (focus (apply SubW [] rfl ?_ ?_ rfl ?_; (repeat' (first | exact kA | refine kB ?_ | refine kC ?_ ?_ | exact kD | fail)))))
 |((with_reducible refine round_next (i := i) (i + 1) ?_ ?_ ?_); (focus (apply SubW [] rfl ?_ ?_ rfl ?_; (repeat' (first | exact kA | refine kB ?_ | refine kC ?_ ?_ | exact kD | fail)))))
 |(with_reducible refine blk_at (id := 2) ?_); ((with_reducible refine JL.loopW 2 799 (fun (k : Nat) tm => (5, .one false [.d (.v (.int .i64 ((k : Int))))]) :: tm) (fun (k : Nat) bo => bo) (fun (k : Nat) => k ≤ i ∧ ∀ j, j < k → ¬ (l.getD j nilSy).name = (l.getD i nilSy).name) (fun (k : Nat) => i - k) (0) ?_ (fun k hk => ?_) ?_); (focus (apply SubW [] rfl ?_ ?_ rfl ?_; (repeat' (first | exact kA | refine kB ?_ | refine kC ?_ ?_ | exact kD | fail)))))
 |((with_reducible refine round_next (i := k) (k + 1) ?_ ?_ ?_); (focus (apply SubW [] rfl ?_ ?_ rfl ?_; (repeat' (first | exact kA | refine kB ?_ | refine kC ?_ ?_ | exact kD | fail)))))
 |refine wA ?_
 |(refine wC ?_ ?_ <;> intro hc)
 |refine wB ?_ ?_
 |(with_reducible refine JL.block ?_)
 |(with_reducible refine F_at ?_); refine eW (vs := [(_, _)]) Tryz.results211 ?_; (focus (repeat' (first | exact oA | refine oB ?_ | refine oC ?_ ?_ | fail)))
 |exact oM
 |fail)
 all_goals first
  | rfl
  | omega
  | exact ⟨Nat.zero_le _, rfl⟩
  | exact ⟨Nat.zero_le _, fun j hj => absurd hj (Nat.not_lt_zero j)⟩
  | exact ⟨by omega, lt_next hk.2 hc⟩
  | exact syms_nil hc
  | exact syms_yes hi.2 (by omega) hc
  | (refine syms_no hi.2 (q_id (by omega) ?_); rw [g i (by omega)]; exact hc)
  | (refine syms_no hi.2 (q_nm (by omega) ?_); rw [g i (by omega)]; exact hc)
  | (refine syms_no hi.2 (q_dup (k := k) (by omega) (by omega) ?_); rw [g i (by omega), g k (by omega)]; exact hc)
  | (show _ = ((symQ l).getD i nilQ).1; rw [g i (by omega)]; done)
  | (refine ⟨by omega, hi.2.trans (q_ok (by omega) ?_ ?_ ?_)⟩
     ·rw [g i (by omega)]; assumption
     ·rw [g i (by omega)]; assumption
     ·intro j hj; rw [g i (by omega), g j (by omega)]; exact hk.2 j (by omega))
  | trace_state
end Go.Proofs.YtjpdemikmdfonaaGreatDoor

namespace Go.Proofs.YtjpdemikmdfonaaGreatDoor
open Go Go.RowKit
set_option maxRecDepth 100000
set_option maxHeartbeats 8000000
set_option linter.unusedSimpArgs false
set_option linter.unusedVariables false
def zeroC : List C := [.d (.v (.int .i64 0)), .d (.v (.bool false)), .d (.v (.int .i64 0)), .d (.v (.string ByteArray.empty)), .d (.v (.int .i64 0)), .zero, .zero, .zero]
theorem samevals_nil (l : List ValD) : FnSound Tryz.prog 309 [.val false [.d (.sl 8 (dVals l))], .val false [.zero]] [] { vals := [(false, [.d (.v (.bool l.isEmpty))])] } := by
 refine startW (tm := [(0, _), (1, _)]) Tryz.func309 rfl Tryz.ntmps309 rfl rfl rfl rfl ?_
 repeat' (first
 |(with_reducible refine rgn 6 600 ?_ ?_); exact rfl
 |(with_reducible refine rgn 7 700 ?_ ?_); exact rfl
 |(with_reducible refine rgn 5 800 ?_ ?_); exact rfl
 |(with_reducible refine blk_at (id := 0) ?_); ((with_reducible refine JL.loopW 0 499 (fun (k : Nat) tm => (5, .one false [.d (.v (.int .i64 ((k : Int))))]) :: tm) (fun (k : Nat) bo => bo) (fun (k : Nat) => k ≤ l.length ∧ l = []) (fun (k : Nat) => l.length - k) (0) ?_ (fun k hk => ?_) ?_); (focus (apply SubW [] rfl ?_ ?_ rfl ?_; (repeat' (first | exact kA | refine kB ?_ | refine kC ?_ ?_ | exact kD | fail)))))
 |((with_reducible refine round_next (i := k) (k + 1) ?_ ?_ ?_); (focus (apply SubW [] rfl ?_ ?_ rfl ?_; (repeat' (first | exact kA | refine kB ?_ | refine kC ?_ ?_ | exact kD | fail)))))
 |refine wA ?_
 |(refine wC ?_ ?_ <;> intro hc)
 |refine wB ?_ ?_
 |(with_reducible refine JL.block ?_)
 |(with_reducible refine F_at ?_); refine eW (vs := [(_, _)]) Tryz.results309 ?_; (focus (repeat' (first | exact oA | refine oB ?_ | refine oC ?_ ?_ | fail)))
 |exact oM
 |fail)
 all_goals first
  | rfl
  | omega
  | (rw [hk.2]; rfl)
  | exact ⟨Nat.zero_le _, List.length_eq_zero_iff.1 (by omega)⟩
  | (cases l with
     | nil => exact absurd rfl hc
     | cons x r => rfl)
  | trace_state
theorem blank_rest {v : ValD} (h : ¬ (v.rest.length : Int) = ((0 : Nat) : Int)) : false = blankP v := by
 unfold blankP
 cases hr : v.rest with
 | nil => rw [hr] at h; exact absurd rfl h
 | cons x r => simp
theorem sameblank_fn (v : ValD) : FnSound Tryz.prog 272 [.val true (valC v), .val true zeroC] [] { vals := [(false, [.d (.v (.bool (blankP v)))])] } := by
 refine startW (tm := [(0, _), (1, _)]) Tryz.func272 rfl Tryz.ntmps272 rfl rfl rfl rfl ?_
 repeat' (first
 |(with_reducible refine rgn 6 600 ?_ ?_); exact rfl
 |(with_reducible refine rgn 7 700 ?_ ?_); exact rfl
 |(with_reducible refine rgn 5 800 ?_ ?_); exact rfl
 |(with_reducible refine K_ca 309 ?_); refine zC (samevals_nil _) ?_
 |(with_reducible refine W_at ?_); (first
 |(refine W.neRaw rfl rfl rfl ?_)
 |(with_reducible refine W.consA ?_)
 |(with_reducible refine W.nilA ?_))
 |(with_reducible refine blk_at (id := 0) ?_); ((with_reducible refine JL.loopW 0 499 (fun (k : Nat) tm => (5, .one false [.d (.v (.int .i64 ((k : Int))))]) :: tm) (fun (k : Nat) bo => bo) (fun (k : Nat) => k ≤ v.rest.length ∧ v.rest = []) (fun (k : Nat) => v.rest.length - k) (0) ?_ (fun k hk => ?_) ?_); (focus (apply SubW [] rfl ?_ ?_ rfl ?_; (repeat' (first | exact kA | refine kB ?_ | refine kC ?_ ?_ | exact kD | fail)))))
 |((with_reducible refine round_next (i := k) (k + 1) ?_ ?_ ?_); (focus (apply SubW [] rfl ?_ ?_ rfl ?_; (repeat' (first | exact kA | refine kB ?_ | refine kC ?_ ?_ | exact kD | fail)))))
 |refine wA ?_
 |(refine wC ?_ ?_ <;> intro hc)
 |refine wB ?_ ?_
 |(with_reducible refine JL.block ?_)
 |(with_reducible refine F_at ?_); refine eW (vs := [(_, _)]) Tryz.results272 ?_; (focus (repeat' (first | exact oA | refine oB ?_ | refine oC ?_ ?_ | fail)))
 |exact oM
 |fail)
 all_goals first
  | rfl
  | omega
  | (exfalso; rw [hk.2] at hc; simp at hc; done)
  | exact ⟨Nat.zero_le _, List.length_eq_zero_iff.1 (by omega)⟩
  | exact blank_rest hc
  | (unfold blankP; simp_all; done)
  | trace_state
end Go.Proofs.YtjpdemikmdfonaaGreatDoor

namespace Go.Proofs.YtjpdemikmdfonaaGreatDoor
open Go Go.RowKit
set_option maxRecDepth 100000
set_option maxHeartbeats 8000000
set_option linter.unusedSimpArgs false
set_option linter.unusedVariables false
def memQ (l : List MemD) : List (Int × ByteArray) := l.map fun x => (x.id, x.name)
theorem memQ_get {l : List MemD} {k : Nat} (h : k < l.length) : (memQ l).getD k nilQ = ((l.getD k nilM0).id, (l.getD k nilM0).name) := by
 simp [memQ, List.getD, h]
theorem memQ_len (l : List MemD) : (memQ l).length = l.length := List.length_map _
theorem mems_eq (rec : Bool) (l : List MemD) : memsP rec l = (l.all (memP rec) && (rec || decide (l ≠ [])) && leftQ (memQ l) 0 && decide (l.length ≤ 16)) := rfl
theorem mems_bad {rec : Bool} {l : List MemD} {i : Nat} (hi : i < l.length) (h : memP rec (l.getD i nilM0) = false) : false = memsP rec l := by
 have : l.all (memP rec) = false := by
  rw [List.all_eq_false]
  refine ⟨l.getD i nilM0, ?_, by rw [h]; simp⟩
  simp [List.getD, hi]
 rw [mems_eq, this]; rfl
theorem mems_no {rec : Bool} {l : List MemD} {i : Nat} (h0 : leftQ (memQ l) 0 = leftQ (memQ l) i) (h : leftQ (memQ l) i = false) : false = memsP rec l := by
 rw [h] at h0
 rw [mems_eq, h0, Bool.and_false]; rfl
theorem mems_long {rec : Bool} {l : List MemD} (h : ¬ (l.length : Int) ≤ 16) : false = memsP rec l := by
 rw [mems_eq, decide_eq_false (show ¬ l.length ≤ 16 by omega), Bool.and_false]
theorem mems_end {rec : Bool} {l : List MemD} {i : Nat} (hi : i ≤ l.length ∧ leftQ (memQ l) 0 = leftQ (memQ l) i ∧ ∀ j, j < i → memP rec (l.getD j nilM0) = true) (he : ¬ (i : Int) < l.length) (h : (l.length : Int) ≤ 16) : (rec || decide (1 ≤ (l.length : Int))) = memsP rec l := by
 have h1 : l.all (memP rec) = true := by
  rw [List.all_eq_true]
  intro x hx
  obtain ⟨j, hj, rfl⟩ := List.getElem_of_mem hx
  have := hi.2.2 j (by omega)
  simpa [List.getD, hj] using this
 have e := leftQ_end (q := memQ l)
 rw [memQ_len, show l.length = i by omega] at e
 rw [mems_eq, h1, hi.2.1, e, decide_eq_true (show l.length ≤ 16 by omega)]
 simp only [Bool.true_and, Bool.and_true]
 congr 1
 refine decide_eq_decide.2 ⟨fun g hn => by rw [hn] at g; simp at g, fun g => ?_⟩
 have : l.length ≠ 0 := fun e => g (List.length_eq_zero_iff.1 e)
 omega
theorem rmembers_fn (l : List MemD) (rec : Bool) (hl : l.length ≤ 5900000000000) : FnSound Tryz.prog 212 [.val false [.d (.sl 13 (dMems l))], .val false [.d (.v (.bool rec))]] [] { vals := [(false, [.d (.v (.bool (memsP rec l)))])] } := by
 have g := fun (k : Nat) (h : k < l.length) => memQ_get (l := l) h
 have hn := memQ_len l
 refine startW (tm := [(0, _), (1, _)]) Tryz.func212 rfl Tryz.ntmps212 rfl rfl rfl rfl ?_
 repeat' (first
 |(with_reducible refine rgn 5 500 ?_ ?_); exact rfl
 |(with_reducible refine rgn 6 600 ?_ ?_); exact rfl
 |(with_reducible refine rgn 7 700 ?_ ?_); exact rfl
 |(with_reducible refine rgn 8 800 ?_ ?_); exact rfl
 |(with_reducible refine rgn 9 900 ?_ ?_); exact rfl
 |(with_reducible refine rgn 10 1000 ?_ ?_); exact rfl
 |(with_reducible refine rgn 11 1100 ?_ ?_); exact rfl
 |(with_reducible refine rgn 13 1200 ?_ ?_); exact rfl
 |(with_reducible refine rgn 14 1300 ?_ ?_); exact rfl
 |(with_reducible refine rgn 12 1400 ?_ ?_); exact rfl
 |(with_reducible refine rgn 15 1500 ?_ ?_); exact rfl
 |(with_reducible refine rgn 4 1600 ?_ ?_); exact rfl
 |(with_reducible refine K_ca 271 ?_); refine zC (r7id_fn _ _) ?_
 |(with_reducible refine K_ca 20 ?_); refine zC (rname_fn _) ?_
 |(with_reducible refine K_ca 272 ?_); refine zC (sameblank_fn _) ?_
 |(with_reducible refine W_at ?_); (first
 |(with_reducible refine W.consA ?_)
 |(with_reducible refine W.nilA ?_))
 |(with_reducible refine blk_at (id := 0) ?_); ((with_reducible refine JL.loopW 0 399 (fun (i : Nat) tm => (5, .one false [.d (.v (.int .i64 ((befQ (memQ l) i))))]) :: (6, .one false [.d (.v (.int .i64 ((i : Int))))]) :: tm) (fun (i : Nat) bo => bo) (fun (i : Nat) => i ≤ l.length ∧ leftQ (memQ l) 0 = leftQ (memQ l) i ∧ ∀ j, j < i → memP rec (l.getD j nilM0) = true) (fun (i : Nat) => l.length - i) (0) ?_ (fun i hi => ?_) ?_); (focus (apply SubW [] rfl ?_ ?_ rfl ?_; (repeat' (first | exact kA | refine kB ?_ | refine kC ?_ ?_ | exact kD | fail)))))
 |((with_reducible refine round_next (i := i) (i + 1) ?_ ?_ ?_); (focus (apply SubW [] rfl ?_ ?_ rfl ?_; (repeat' (first | exact kA | refine kB ?_ | refine kC ?_ ?_ | exact kD | fail)))))
 |(with_reducible refine blk_at (id := 2) ?_); ((with_reducible refine JL.loopW 2 1099 (fun (k : Nat) tm => (8, .one false [.d (.v (.int .i64 ((k : Int))))]) :: tm) (fun (k : Nat) bo => bo) (fun (k : Nat) => k ≤ i ∧ ∀ j, j < k → ¬ (l.getD j nilM0).name = (l.getD i nilM0).name) (fun (k : Nat) => i - k) (0) ?_ (fun k hk => ?_) ?_); (focus (apply SubW [] rfl ?_ ?_ rfl ?_; (repeat' (first | exact kA | refine kB ?_ | refine kC ?_ ?_ | exact kD | fail)))))
 |((with_reducible refine round_next (i := k) (k + 1) ?_ ?_ ?_); (focus (apply SubW [] rfl ?_ ?_ rfl ?_; (repeat' (first | exact kA | refine kB ?_ | refine kC ?_ ?_ | exact kD | fail)))))
 |refine wA ?_
 |(refine wC ?_ ?_ <;> intro hc)
 |refine wB ?_ ?_
 |(with_reducible refine JL.block ?_)
 |(with_reducible refine F_at ?_); refine eW (vs := [(_, _)]) Tryz.results212 ?_; (focus (repeat' (first | exact oA | refine oB ?_ | refine oC ?_ ?_ | fail)))
 |exact oM
 |fail)
 all_goals first
  | rfl
  | omega
  | exact ⟨Nat.zero_le _, rfl, fun j hj => absurd hj (Nat.not_lt_zero j)⟩
  | exact ⟨Nat.zero_le _, fun j hj => absurd hj (Nat.not_lt_zero j)⟩
  | exact ⟨by omega, lt_next hk.2 hc⟩
  | exact mems_long hc
  | (rw [← mems_end hi ‹_› ‹_›]; simp_all; done)
  | (refine mems_no hi.2.1 (q_id (by omega) ?_); rw [g i (by omega)]; exact hc)
  | (refine mems_no hi.2.1 (q_nm (by omega) ?_); rw [g i (by omega)]; exact hc)
  | (refine mems_no hi.2.1 (q_dup (k := k) (by omega) (by omega) ?_); rw [g i (by omega), g k (by omega)]; exact hc)
  | (refine mems_bad (i := i) (by omega) ?_; unfold memP; simp_all; done)
  | (show _ = ((memQ l).getD i nilQ).1; rw [g i (by omega)]; done)
  | (refine ⟨by omega, hi.2.1.trans (q_ok (by omega) ?_ ?_ ?_), lt_next hi.2.2 ?_⟩
     ·rw [g i (by omega)]; assumption
     ·rw [g i (by omega)]; assumption
     ·intro j hj; rw [g i (by omega), g j (by omega)]; exact hk.2 j (by omega)
     ·unfold memP; simp_all; done)
  | trace_state
end Go.Proofs.YtjpdemikmdfonaaGreatDoor

namespace Go.Proofs.YtjpdemikmdfonaaGreatDoor
open Go Go.RowKit
set_option maxRecDepth 100000
set_option maxHeartbeats 8000000
set_option linter.unusedSimpArgs false
set_option linter.unusedVariables false
theorem rown_fn (t : TypD) (hl : t.syms.length ≤ 5900000000000 ∧ t.mems.length ≤ 5900000000000) (hv : ∀ k, k < t.mems.length → smV (t.mems.getD k nilM0).dflt) : FnSound Tryz.prog 152 [.val true (typC t)] [] { vals := [(false, [.d (.v (.bool (formP t)))])] } := by
 refine startW (tm := [(0, _)]) Tryz.func152 rfl Tryz.ntmps152 rfl rfl rfl rfl ?_
 repeat' (first
 |(with_reducible refine K_ca 210 ?_); refine zC (rplain_fn t) ?_
 |(with_reducible refine K_ca 209 ?_); refine zC (sameplain_fn t (by omega) hl hv) ?_
 |(with_reducible refine K_ca 153 ?_); refine zC (named_fn _) ?_
 |(with_reducible refine K_ca 20 ?_); refine zC (rname_fn _) ?_
 |(with_reducible refine K_ca 211 ?_); refine zC (rsymbols_fn _ hl.1) ?_
 |(with_reducible refine K_ca 212 ?_); refine zC (rmembers_fn _ _ hl.2) ?_
 |(with_reducible refine W_at ?_); (first
 |(with_reducible refine W.consA ?_)
 |(with_reducible refine W.nilA ?_))
 |refine wA ?_
 |(refine wC ?_ ?_ <;> intro hc)
 |refine wB ?_ ?_
 |(with_reducible refine JL.block ?_)
 |(with_reducible refine F_at ?_); refine eW (vs := [(_, _)]) Tryz.results152 ?_; (focus (repeat' (first | exact oA | refine oB ?_ | refine oC ?_ ?_ | fail)))
 |exact oM
 |fail)
 all_goals first | rfl | omega | (unfold formP; simp_all; done) | (unfold formP; simp_all; omega) | trace_state
end Go.Proofs.YtjpdemikmdfonaaGreatDoor

