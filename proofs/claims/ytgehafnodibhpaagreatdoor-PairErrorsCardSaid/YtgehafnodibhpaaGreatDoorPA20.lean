/- Rules of runs and contracts of functions, for the claims of one seat. -/
import Derived.Test.YtgehafnodibhpaaGreatDoorPA14
import Derived.Test.YtgehafnodibhpaaGreatDoorPA16
import Derived.Test.YtgehafnodibhpaaGreatDoorPA18
import Derived.Test.YtgehafnodibhpaaGreatDoorPA19
namespace Go.Proofs.YtgehafnodibhpaaGreatDoor
open Go Go.RowKit
set_option maxRecDepth 100000
set_option maxHeartbeats 8000000
set_option linter.unusedSimpArgs false
set_option linter.unusedVariables false
def seenN (q : List (Int × ByteArray)) (i : Nat) : List ByteArray := (q.take i).map (·.2)
def idsQ (q : List (Int × ByteArray)) : List Int := q.map (·.1)
def nmsQ (q : List (Int × ByteArray)) : List ByteArray := q.map (·.2)
theorem idsQ_len (q : List (Int × ByteArray)) : (idsQ q).length = q.length := List.length_map _
theorem nmsQ_len (q : List (Int × ByteArray)) : (nmsQ q).length = q.length := List.length_map _
theorem idsQ_get {q : List (Int × ByteArray)} {k : Nat} (h : k < q.length) : (idsQ q).getD k 0 = (q.getD k nilQ).1 := by simp [idsQ, List.getD, h]
theorem nmsQ_get {q : List (Int × ByteArray)} {k : Nat} (h : k < q.length) : (nmsQ q).getD k ByteArray.empty = (q.getD k nilQ).2 := by simp [nmsQ, List.getD, h]
theorem seenQ_has (q : List (Int × ByteArray)) (i : Nat) (s : ByteArray) : (seenQ q i).any (fun m => decide (m = s)) = hasS (seenN q i) s := by
 unfold seenQ seenN hasS
 rw [List.any_reverse]
theorem q_dup2 {q : List (Int × ByteArray)} {i : Nat} (h : i < q.length) (hc : hasS (seenN q i) (q.getD i nilQ).2 = true) : leftQ q i = false := by
 rw [leftQ_step h, seenQ_has, hc]; simp
theorem q_ok2 {q : List (Int × ByteArray)} {i : Nat} (h : i < q.length) (h1 : befQ q i < (q.getD i nilQ).1 ∧ 1 ≤ (q.getD i nilQ).1 ∧ (q.getD i nilQ).1 ≤ 1000) (h2 : isNameP (q.getD i nilQ).2 = true) (h3 : hasS (seenN q i) (q.getD i nilQ).2 = false) : leftQ q i = leftQ q (i + 1) := by
 rw [leftQ_step h, decide_eq_true h1, h2, seenQ_has, h3]; rfl
theorem seenN_add {q : List (Int × ByteArray)} {i : Nat} (h : i < q.length) (h3 : hasS (seenN q i) (q.getD i nilQ).2 = false) : addS (seenN q i) (q.getD i nilQ).2 = seenN q (i + 1) := by
 unfold addS
 rw [h3, if_neg (by decide)]
 unfold seenN
 rw [List.take_add_one, List.map_append]
 simp [List.getD, h]
theorem befQ_prev {q : List (Int × ByteArray)} {i : Nat} (h : i ≤ q.length) (hi : 0 < (i : Int)) : befQ q i = (idsQ q).getD ((i : Int) - 1).toNat 0 := by
 obtain ⟨j, rfl⟩ : ∃ j, i = j + 1 := ⟨i - 1, by omega⟩
 rw [show (((j + 1 : Nat) : Int) - 1).toNat = j by omega, idsQ_get (by omega)]
 rfl
theorem befQ_first {q : List (Int × ByteArray)} {i : Nat} (hi : ¬ 0 < (i : Int)) : befQ q i = 0 := by
 obtain rfl : i = 0 := by omega
 rfl
theorem befQ_if {q : List (Int × ByteArray)} {i : Nat} (h : i ≤ q.length) : (0 < (i : Int) → befQ q i = (idsQ q).getD ((i : Int) - 1).toNat 0) ∧ (¬ 0 < (i : Int) → befQ q i = 0) := ⟨befQ_prev h, befQ_first⟩
theorem ids_no {q : List (Int × ByteArray)} {i : Nat} (h0 : leftQ q 0 = leftQ q i) (h : leftQ q i = false) : false = (leftQ q 0 && decide ((q.length : Int) ≤ 16)) := by rw [h0, h]; rfl
theorem ids_end {q : List (Int × ByteArray)} {i : Nat} (h0 : leftQ q 0 = leftQ q i) (h : i = q.length) : decide ((q.length : Int) ≤ 16) = (leftQ q 0 && decide ((q.length : Int) ≤ 16)) := by rw [h0, h, leftQ_end]; rfl
theorem pids_fn (q : List (Int × ByteArray)) (hl : q.length ≤ 5900000000000) : FnSound Tryz.prog 314 [.val false [.d (.sl 1 (dInts (idsQ q)))], .val false [.d (.sl 1 (dStrs (nmsQ q)))]] [] { vals := [(false, [.d (.v (.bool (leftQ q 0 && decide ((q.length : Int) ≤ 16))))])] } := by
 have hi1 := idsQ_len q
 have hn1 := nmsQ_len q
 have gi := fun (k : Nat) (h : k < q.length) => idsQ_get h
 have gn := fun (k : Nat) (h : k < q.length) => nmsQ_get h
 refine startW (tm := [(0, _), (1, _)]) Tryz.func314 rfl Tryz.ntmps314 rfl rfl rfl rfl ?_
 repeat' (first
 |(with_reducible refine K_ca 94 ?_); refine zC (pname_fn _) ?_
 |(with_reducible refine W_at ?_); (first
 |(refine W.mapNew _ rfl m64 ?_)
 |(refine W.mapGet mp_sb rfl rfl rfl rfl ?_)
 |(refine W.mapPut mp_sb rfl rfl rfl rfl ?_))
 |(with_reducible refine blk_at (id := 0) ?_); ((with_reducible refine JL.loopW 0 399 (fun (i : Nat) tm => (11, .one false [.d (.v (.int .i64 ((i : Int))))]) :: tm) (fun (i : Nat) bo => ((0, 200), some (.mp (mEnts 0 (seenN q i)).toArray (seenN q i).length)) :: bo) (fun (i : Nat) => i ≤ q.length ∧ leftQ q 0 = leftQ q i) (fun (i : Nat) => q.length - i) (0) ?_ (fun i hi => have hbf := befQ_if (q := q) hi.1; have hgi := gi i; ?_) ?_); (focus (apply SubW [] rfl ?_ ?_ rfl ?_; (repeat' (first | exact kA | refine kB ?_ | refine kC ?_ ?_ | exact kD | fail)))))
 |((with_reducible refine round_next (i := i) (i + 1) ?_ ?_ ?_); (focus (apply SubW [] rfl ?_ ?_ rfl ?_; (repeat' (first | exact kA | refine kB ?_ | refine kC ?_ ?_ | exact kD | fail)))))
 |refine wA ?_
 |(refine wC ?_ ?_ <;> intro hc)
 |refine wB ?_ ?_
 |(with_reducible refine JL.block ?_)
 |(with_reducible refine F_at ?_); refine eW (vs := [(_, _)]) Tryz.results314 ?_; (focus (repeat' (first | exact oA | refine oB ?_ | refine oC ?_ ?_ | fail)))
 |exact oM
 |fail)
 all_goals first
  | with_reducible rfl
  | omega
  | rfl
  | exact ⟨Nat.zero_le _, rfl⟩
  | exact ids_no hi.2 (q_id (by omega) (by omega))
  | (refine ids_no hi.2 (q_dup2 (by omega) ?_); rw [← gn i (by omega)]; exact hc)
  | (refine ids_no hi.2 (q_nm (by omega) ?_); rw [← gn i (by omega)]; exact hc)
  | (rw [gn i (by omega)]; refine seenN_add (by omega) ?_; rw [← gn i (by omega)]; assumption)
  | (refine ⟨by omega, hi.2.trans (q_ok2 (by omega) (by omega) ?_ ?_)⟩ <;> rw [← gn i (by omega)]
     ·exact nf hc
     ·assumption)
  | (rw [idsQ_len]; exact ids_end hi.2 (by omega))
  | trace_state
theorem symQ_next {l : List SymD} {k : Nat} (h : k < l.length) : (l.take (k + 1)).map (·.id) = (l.take k).map (·.id) ++ [(l.getD k nilSy).id] ∧ (l.take (k + 1)).map (·.name) = (l.take k).map (·.name) ++ [(l.getD k nilSy).name] := by
 rw [List.take_add_one, List.map_append, List.map_append]
 simp [List.getD, h]
theorem symQ_ids (l : List SymD) : l.map (·.id) = idsQ (symQ l) ∧ l.map (·.name) = nmsQ (symQ l) := by
 unfold idsQ nmsQ symQ
 rw [List.map_map, List.map_map]
 exact ⟨rfl, rfl⟩
theorem symsP_eq {l : List SymD} (h : 0 < (l.length : Int)) : (leftQ (symQ l) 0 && decide (((symQ l).length : Int) ≤ 16)) = symsP l := by
 have e : symsP l = (decide (l ≠ []) && leftQ (symQ l) 0 && decide (l.length ≤ 16)) := rfl
 rw [e, decide_eq_true (show l ≠ [] from fun e => by rw [e] at h; simp at h), symQ_len]
 simp only [Bool.true_and]
 congr 1
 exact decide_eq_decide.2 (by omega)
theorem psymbols_fn (l : List SymD) (hl : l.length ≤ 5900000000000) : FnSound Tryz.prog 263 [.val false [.d (.sl 2 (dSyms l))]] [] { vals := [(false, [.d (.v (.bool (symsP l)))])] } := by
 have hq := symQ_len l
 have hm1 : ∀ k, ((l.take k).map (·.id)).length = (l.take k).length := fun k => List.length_map _
 have hm2 : ∀ k, ((l.take k).map (·.name)).length = (l.take k).length := fun k => List.length_map _
 have hc9 : ∀ i, l.length ≤ i → FnSound Tryz.prog 314 [.val false [.d (.sl 1 (dInts ((l.take i).map (·.id))))], .val false [.d (.sl 1 (dStrs ((l.take i).map (·.name))))]] [] { vals := [(false, [.d (.v (.bool (leftQ (symQ l) 0 && decide (((symQ l).length : Int) ≤ 16))))])] } := fun i h => by
  have hc9 := pids_fn (symQ l) (by omega)
  rw [List.take_of_length_le h, (symQ_ids l).1, (symQ_ids l).2]
  exact hc9
 refine startW (tm := [(0, _)]) Tryz.func263 rfl Tryz.ntmps263 rfl rfl rfl rfl ?_
 repeat' (first
 |(with_reducible refine rgL (fun g => g == 314) ?_ ?_); exact rfl
 |(with_reducible refine K_ca 314 ?_); refine zC (hc9 i (by omega)) ?_
 |(with_reducible refine blk_at (id := 0) ?_); (try (refine JL.zeroW 3 _ 3 1 rfl rfl ?_)); (refine JL.rekW 3 (1048, 451) rfl rfl rfl rfl ?_); (try (refine JL.zeroW 4 _ 9 1 rfl rfl ?_)); (refine JL.rekW 4 (1064, 453) rfl rfl rfl rfl ?_); ((with_reducible refine JL.loopW 0 499 (fun (i : Nat) tm => (9, .one false [.d (.v (.int .i64 ((i : Int))))]) :: (3, .one false [.own (1048, 451)]) :: (4, .one false [.own (1064, 453)]) :: tm) (fun (i : Nat) bo => ((1048, 451), some (.sl 3 1 ((dInts ((l.take i).map (·.id)))))) :: ((1064, 453), some (.sl 9 1 ((dStrs ((l.take i).map (·.name)))))) :: bo) (fun (i : Nat) => i ≤ l.length) (fun (i : Nat) => l.length - i) (0) ?_ (fun i hi => have h1 := hm1 i; have h2 := hm2 i; have h3 := List.length_take (i := i) (l := l); ?_) ?_); (focus (apply SubW [((1048, 451), _), ((1064, 453), _)] rfl ?_ ?_ rfl ?_; (repeat' (first | exact kA | refine kB ?_ | refine kC ?_ ?_ | exact kD | fail)))))
 |((with_reducible refine round_next (i := i) (i + 1) ?_ ?_ ?_); (focus (apply SubW [((1048, 451), _), ((1064, 453), _)] rfl ?_ ?_ rfl ?_; (repeat' (first | exact kA | refine kB ?_ | refine kC ?_ ?_ | exact kD | fail)))))
 |refine wA ?_
 |(refine wC ?_ ?_ <;> intro hc)
 |refine wB ?_ ?_
 |(with_reducible refine JL.block ?_)
 |(with_reducible refine F_at ?_); refine eW (vs := [(_, _)]) Tryz.results263 ?_; (focus (repeat' (first | exact oA | refine oB ?_ | refine oC ?_ ?_ | fail)))
 |exact oM
 |fail)
 all_goals first
  | with_reducible rfl
  | omega
  | rfl
  | (rw [(symQ_next (by omega)).1]; done)
  | (rw [(symQ_next (by omega)).2]; done)
  | exact symsP_eq hc
  | (obtain rfl : l = [] := List.length_eq_zero_iff.1 (by omega)
     rfl)
  | trace_state
end Go.Proofs.YtgehafnodibhpaaGreatDoor

