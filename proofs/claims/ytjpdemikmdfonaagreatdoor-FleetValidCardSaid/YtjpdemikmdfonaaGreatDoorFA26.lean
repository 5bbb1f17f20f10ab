/- Rules of runs and contracts of functions, for the claims of one seat. -/
import Derived.Test.YtjpdemikmdfonaaGreatDoorFA15
import Derived.Test.YtjpdemikmdfonaaGreatDoorFA17
import Derived.Test.YtjpdemikmdfonaaGreatDoorFA18
import Derived.Test.YtjpdemikmdfonaaGreatDoorFA19
import Derived.Test.YtjpdemikmdfonaaGreatDoorFA21
namespace Go.Proofs.YtjpdemikmdfonaaGreatDoor
open Go Go.RowKit
set_option maxRecDepth 100000
set_option maxHeartbeats 8000000
set_option linter.unusedSimpArgs false
set_option linter.unusedVariables false
def seenN (q : List (Int × ByteArray)) (i : Nat) : List ByteArray := (q.take i).map (·.2)
def idsQ (q : List (Int × ByteArray)) : List Int := q.map (·.1)
def nmsQ (q : List (Int × ByteArray)) : List ByteArray := q.map (·.2)
theorem idsQ_len (q : List (Int × ByteArray)) : (idsQ q).length = q.length := List.length_map _
theorem nmsQ_len (q : List (Int × ByteArray)) : (nmsQ q).length = q.length := List.length_map _
theorem idsQ_get {q : List (Int × ByteArray)} {k : Nat} (h : k < q.length) : (idsQ q).getD k 0 = (q.getD k nilQ).1 := by simp [idsQ, List.getD, h]
theorem nmsQ_get {q : List (Int × ByteArray)} {k : Nat} (h : k < q.length) : (nmsQ q).getD k ByteArray.empty = (q.getD k nilQ).2 := by simp [nmsQ, List.getD, h]
theorem seenQ_has (q : List (Int × ByteArray)) (i : Nat) (s : ByteArray) : (seenQ q i).any (fun m => decide (m = s)) = hasS (seenN q i) s := by
 unfold seenQ seenN hasS
 rw [List.any_reverse]
theorem q_dup2 {q : List (Int × ByteArray)} {i : Nat} (h : i < q.length) (hc : hasS (seenN q i) (q.getD i nilQ).2 = true) : leftQ q i = false := by
 rw [leftQ_step h, seenQ_has, hc]; simp
theorem q_ok2 {q : List (Int × ByteArray)} {i : Nat} (h : i < q.length) (h1 : befQ q i < (q.getD i nilQ).1 ∧ 1 ≤ (q.getD i nilQ).1 ∧ (q.getD i nilQ).1 ≤ 1000) (h2 : isNameP (q.getD i nilQ).2 = true) (h3 : hasS (seenN q i) (q.getD i nilQ).2 = false) : leftQ q i = leftQ q (i + 1) := by
 rw [leftQ_step h, decide_eq_true h1, h2, seenQ_has, h3]; rfl
theorem seenN_add {q : List (Int × ByteArray)} {i : Nat} (h : i < q.length) (h3 : hasS (seenN q i) (q.getD i nilQ).2 = false) : addS (seenN q i) (q.getD i nilQ).2 = seenN q (i + 1) := by
 unfold addS
 rw [h3, if_neg (by decide)]
 unfold seenN
 rw [List.take_add_one, List.map_append]
 simp [List.getD, h]
theorem befQ_prev {q : List (Int × ByteArray)} {i : Nat} (h : i ≤ q.length) (hi : 0 < (i : Int)) : befQ q i = (idsQ q).getD ((i : Int) - 1).toNat 0 := by
 obtain ⟨j, rfl⟩ : ∃ j, i = j + 1 := ⟨i - 1, by omega⟩
 rw [show (((j + 1 : Nat) : Int) - 1).toNat = j by omega, idsQ_get (by omega)]
 rfl
theorem befQ_first {q : List (Int × ByteArray)} {i : Nat} (hi : ¬ 0 < (i : Int)) : befQ q i = 0 := by
 obtain rfl : i = 0 := by omega
 rfl
theorem befQ_if {q : List (Int × ByteArray)} {i : Nat} (h : i ≤ q.length) : (0 < (i : Int) → befQ q i = (idsQ q).getD ((i : Int) - 1).toNat 0) ∧ (¬ 0 < (i : Int) → befQ q i = 0) := ⟨befQ_prev h, befQ_first⟩
theorem ids_no {q : List (Int × ByteArray)} {i : Nat} (h0 : leftQ q 0 = leftQ q i) (h : leftQ q i = false) : false = (leftQ q 0 && decide ((q.length : Int) ≤ 16)) := by rw [h0, h]; rfl
theorem ids_end {q : List (Int × ByteArray)} {i : Nat} (h0 : leftQ q 0 = leftQ q i) (h : i = q.length) : decide ((q.length : Int) ≤ 16) = (leftQ q 0 && decide ((q.length : Int) ≤ 16)) := by rw [h0, h, leftQ_end]; rfl
theorem pids_fn (q : List (Int × ByteArray)) (hl : q.length ≤ 5900000000000) : FnSound Tryz.prog 197 [.val false [.d (.sl 1 (dInts (idsQ q)))], .val false [.d (.sl 1 (dStrs (nmsQ q)))]] [] { vals := [(false, [.d (.v (.bool (leftQ q 0 && decide ((q.length : Int) ≤ 16))))])] } := by
 have hi1 := idsQ_len q
 have hn1 := nmsQ_len q
 have gi := fun (k : Nat) (h : k < q.length) => idsQ_get h
 have gn := fun (k : Nat) (h : k < q.length) => nmsQ_get h
 refine startW (tm := [(0, _), (1, _)]) Tryz.func197 rfl Tryz.ntmps197 rfl rfl rfl rfl ?_
 repeat' (first
 |(with_reducible refine K_ca 15 ?_); refine zC (pname_fn _) ?_
 |(with_reducible refine W_at ?_); (first
 |(refine W.mapNew _ rfl m64 ?_)
 |(refine W.mapGet mp_sb rfl rfl rfl rfl ?_)
 |(refine W.mapPut mp_sb rfl rfl rfl rfl ?_))
 |(with_reducible refine blk_at (id := 0) ?_); ((with_reducible refine JL.loopW 0 399 (fun (i : Nat) tm => (11, .one false [.d (.v (.int .i64 ((i : Int))))]) :: tm) (fun (i : Nat) bo => ((0, 200), some (.mp (mEnts 0 (seenN q i)).toArray (seenN q i).length)) :: bo) (fun (i : Nat) => i ≤ q.length ∧ leftQ q 0 = leftQ q i) (fun (i : Nat) => q.length - i) (0) ?_ (fun i hi => have hbf := befQ_if (q := q) hi.1; have hgi := gi i; ?_) ?_); (focus (apply SubW [] rfl ?_ ?_ rfl ?_; (repeat' (first | exact kA | refine kB ?_ | refine kC ?_ ?_ | exact kD | fail)))))
 |((with_reducible refine round_next (i := i) (i + 1) ?_ ?_ ?_); (focus (apply SubW [] rfl ?_ ?_ rfl ?_; (repeat' (first | exact kA | refine kB ?_ | refine kC ?_ ?_ | exact kD | fail)))))
 |refine wA ?_
 |(refine wC ?_ ?_ <;> intro hc)
 |refine wB ?_ ?_
 |(with_reducible refine JL.block ?_)
 |(with_reducible refine F_at ?_); refine eW (vs := [(_, _)]) Tryz.results197 ?_; (focus (repeat' (first | exact oA | refine oB ?_ | refine oC ?_ ?_ | fail)))
 |exact oM
 |fail)
 all_goals first
  | with_reducible rfl
  | omega
  | rfl
  | exact ⟨Nat.zero_le _, rfl⟩
  | exact ids_no hi.2 (q_id (by omega) (by omega))
  | (refine ids_no hi.2 (q_dup2 (by omega) ?_); rw [← gn i (by omega)]; exact hc)
  | (refine ids_no hi.2 (q_nm (by omega) ?_); rw [← gn i (by omega)]; exact hc)
  | (rw [gn i (by omega)]; refine seenN_add (by omega) ?_; rw [← gn i (by omega)]; assumption)
  | (refine ⟨by omega, hi.2.trans (q_ok2 (by omega) (by omega) ?_ ?_)⟩ <;> rw [← gn i (by omega)]
     ·exact nf hc
     ·assumption)
  | (rw [idsQ_len]; exact ids_end hi.2 (by omega))
  | trace_state
theorem symQ_next {l : List SymD} {k : Nat} (h : k < l.length) : (l.take (k + 1)).map (·.id) = (l.take k).map (·.id) ++ [(l.getD k nilSy).id] ∧ (l.take (k + 1)).map (·.name) = (l.take k).map (·.name) ++ [(l.getD k nilSy).name] := by
 rw [List.take_add_one, List.map_append, List.map_append]
 simp [List.getD, h]
theorem symQ_ids (l : List SymD) : l.map (·.id) = idsQ (symQ l) ∧ l.map (·.name) = nmsQ (symQ l) := by
 unfold idsQ nmsQ symQ
 rw [List.map_map, List.map_map]
 exact ⟨rfl, rfl⟩
theorem symsP_eq {l : List SymD} (h : 0 < (l.length : Int)) : (leftQ (symQ l) 0 && decide (((symQ l).length : Int) ≤ 16)) = symsP l := by
 have e : symsP l = (decide (l ≠ []) && leftQ (symQ l) 0 && decide (l.length ≤ 16)) := rfl
 rw [e, decide_eq_true (show l ≠ [] from fun e => by rw [e] at h; simp at h), symQ_len]
 simp only [Bool.true_and]
 congr 1
 exact decide_eq_decide.2 (by omega)
theorem psymbols_fn (l : List SymD) (hl : l.length ≤ 5900000000000) : FnSound Tryz.prog 141 [.val false [.d (.sl 2 (dSyms l))]] [] { vals := [(false, [.d (.v (.bool (symsP l)))])] } := by
 have hq := symQ_len l
 have hm1 : ∀ k, ((l.take k).map (·.id)).length = (l.take k).length := fun k => List.length_map _
 have hm2 : ∀ k, ((l.take k).map (·.name)).length = (l.take k).length := fun k => List.length_map _
 have hc9 : ∀ i, l.length ≤ i → FnSound Tryz.prog 197 [.val false [.d (.sl 1 (dInts ((l.take i).map (·.id))))], .val false [.d (.sl 1 (dStrs ((l.take i).map (·.name))))]] [] { vals := [(false, [.d (.v (.bool (leftQ (symQ l) 0 && decide (((symQ l).length : Int) ≤ 16))))])] } := fun i h => by
  have hc9 := pids_fn (symQ l) (by omega)
  rw [List.take_of_length_le h, (symQ_ids l).1, (symQ_ids l).2]
  exact hc9
 refine startW (tm := [(0, _)]) Tryz.func141 rfl Tryz.ntmps141 rfl rfl rfl rfl ?_
 repeat' (first
 |(with_reducible refine rgL (fun g => g == 197) ?_ ?_); exact rfl
 |(with_reducible refine K_ca 197 ?_); refine zC (hc9 i (by omega)) ?_
 |(with_reducible refine blk_at (id := 0) ?_); (try (refine JL.zeroW 3 _ 3 1 rfl rfl ?_)); (refine JL.rekW 3 (1048, 451) rfl rfl rfl rfl ?_); (try (refine JL.zeroW 4 _ 9 1 rfl rfl ?_)); (refine JL.rekW 4 (1064, 453) rfl rfl rfl rfl ?_); ((with_reducible refine JL.loopW 0 499 (fun (i : Nat) tm => (9, .one false [.d (.v (.int .i64 ((i : Int))))]) :: (3, .one false [.own (1048, 451)]) :: (4, .one false [.own (1064, 453)]) :: tm) (fun (i : Nat) bo => ((1048, 451), some (.sl 3 1 ((dInts ((l.take i).map (·.id)))))) :: ((1064, 453), some (.sl 9 1 ((dStrs ((l.take i).map (·.name)))))) :: bo) (fun (i : Nat) => i ≤ l.length) (fun (i : Nat) => l.length - i) (0) ?_ (fun i hi => have h1 := hm1 i; have h2 := hm2 i; have h3 := List.length_take (i := i) (l := l); ?_) ?_); (focus (apply SubW [((1048, 451), _), ((1064, 453), _)] rfl ?_ ?_ rfl ?_; (repeat' (first | exact kA | refine kB ?_ | refine kC ?_ ?_ | exact kD | fail)))))
 |((with_reducible refine round_next (i := i) (i + 1) ?_ ?_ ?_); (focus (apply SubW [((1048, 451), _), ((1064, 453), _)] rfl ?_ ?_ rfl ?_; (repeat' (first | exact kA | refine kB ?_ | refine kC ?_ ?_ | exact kD | fail)))))
 |refine wA ?_
 |(refine wC ?_ ?_ <;> intro hc)
 |refine wB ?_ ?_
 |(with_reducible refine JL.block ?_)
 |(with_reducible refine F_at ?_); refine eW (vs := [(_, _)]) Tryz.results141 ?_; (focus (repeat' (first | exact oA | refine oB ?_ | refine oC ?_ ?_ | fail)))
 |exact oM
 |fail)
 all_goals first
  | with_reducible rfl
  | omega
  | rfl
  | (rw [(symQ_next (by omega)).1]; done)
  | (rw [(symQ_next (by omega)).2]; done)
  | exact symsP_eq hc
  | (obtain rfl : l = [] := List.length_eq_zero_iff.1 (by omega)
     rfl)
  | trace_state
end Go.Proofs.YtjpdemikmdfonaaGreatDoor

namespace Go.Proofs.YtjpdemikmdfonaaGreatDoor
open Go Go.RowKit
set_option maxRecDepth 100000
set_option maxHeartbeats 8000000
set_option linter.unusedSimpArgs false
set_option linter.unusedVariables false
theorem eqRaw_nil (r : List RawD) : FnSound Tryz.prog 258 [.val false [.d (.sl 2 (dRaws r))], .val false [.zero]] [] { vals := [(false, [.d (.v (.bool r.isEmpty))])] } := by
 refine startW (tm := [(0, _), (1, _)]) Tryz.func258 rfl Tryz.ntmps258 rfl rfl rfl rfl ?_
 repeat' (first
 |(with_reducible refine blk_at (id := 0) ?_); ((with_reducible refine JL.loopW 0 499 (fun (k : Nat) tm => (13, .one false [.d (.v (.int .i64 ((k : Int))))]) :: tm) (fun (k : Nat) bo => bo) (fun (k : Nat) => k ≤ r.length ∧ r = []) (fun (k : Nat) => r.length - k) (0) ?_ (fun k hk => ?_) ?_); (focus (apply SubW [] rfl ?_ ?_ rfl ?_; (repeat' (first | exact kA | refine kB ?_ | refine kC ?_ ?_ | exact kD | fail)))))
 |((with_reducible refine round_next (i := k) (k + 1) ?_ ?_ ?_); (focus (apply SubW [] rfl ?_ ?_ rfl ?_; (repeat' (first | exact kA | refine kB ?_ | refine kC ?_ ?_ | exact kD | fail)))))
 |refine wA ?_
 |(refine wC ?_ ?_ <;> intro hc)
 |refine wB ?_ ?_
 |(with_reducible refine JL.block ?_)
 |(with_reducible refine F_at ?_); refine eW (vs := [(_, _)]) Tryz.results258 ?_; (focus (repeat' (first | exact oA | refine oB ?_ | refine oC ?_ ?_ | fail)))
 |exact oM
 |fail)
 all_goals first
  | rfl
  | omega
  | (rw [hk.2]; rfl)
  | exact ⟨Nat.zero_le _, List.length_eq_zero_iff.1 (by omega)⟩
  | (exfalso; rw [hk.2] at hc; simp at hc; done)
  | (cases r with
     | nil => exact absurd rfl hc
     | cons x r => rfl)
  | trace_state
theorem eqVals_nil (l : List ValD) (F : FuncId) : FnSound Tryz.prog 259 [.val false [.d (.sl 8 (dVals l))], .val false [.zero], .val false [.d (.v (.func (.func F) #[] #[]))]] [] { vals := [(false, [.d (.v (.bool l.isEmpty))])] } := by
 refine startW (tm := [(0, _), (1, _), (2, _)]) Tryz.func259 rfl Tryz.ntmps259 rfl rfl rfl rfl ?_
 repeat' (first
 |(with_reducible refine blk_at (id := 0) ?_); ((with_reducible refine JL.loopW 0 499 (fun (k : Nat) tm => (17, .one false [.d (.v (.int .i64 ((k : Int))))]) :: tm) (fun (k : Nat) bo => bo) (fun (k : Nat) => k ≤ l.length ∧ l = []) (fun (k : Nat) => l.length - k) (0) ?_ (fun k hk => ?_) ?_); (focus (apply SubW [] rfl ?_ ?_ rfl ?_; (repeat' (first | exact kA | refine kB ?_ | refine kC ?_ ?_ | exact kD | fail)))))
 |((with_reducible refine round_next (i := k) (k + 1) ?_ ?_ ?_); (focus (apply SubW [] rfl ?_ ?_ rfl ?_; (repeat' (first | exact kA | refine kB ?_ | refine kC ?_ ?_ | exact kD | fail)))))
 |refine wA ?_
 |(refine wC ?_ ?_ <;> intro hc)
 |refine wB ?_ ?_
 |(with_reducible refine JL.block ?_)
 |(with_reducible refine F_at ?_); refine eW (vs := [(_, _)]) Tryz.results259 ?_; (focus (repeat' (first | exact oA | refine oB ?_ | refine oC ?_ ?_ | fail)))
 |exact oM
 |fail)
 all_goals first
  | rfl
  | omega
  | (rw [hk.2]; rfl)
  | exact ⟨Nat.zero_le _, List.length_eq_zero_iff.1 (by omega)⟩
  | (exfalso; rw [hk.2] at hc; simp at hc; done)
  | (cases l with
     | nil => exact absurd rfl hc
     | cons x r => rfl)
  | trace_state
theorem psame0_fn (v : ValD) : FnSound Tryz.prog 202 [.val true (valC v), .val true zeroC] [] { vals := [(false, [.d (.v (.bool (blankP v)))])] } := by
 refine startW (tm := [(0, _), (1, _)]) Tryz.func202 rfl Tryz.ntmps202 rfl rfl rfl rfl ?_
 repeat' (first
 |(with_reducible refine K_ca 258 ?_); refine zC (eqRaw_nil _) ?_
 |(with_reducible refine K_ca 259 ?_); refine zC (eqVals_nil _ _) ?_
 |(with_reducible refine W_at ?_); (first
 |(with_reducible refine W.consA ?_)
 |(with_reducible refine W.nilA ?_))
 |refine wA ?_
 |(refine wC ?_ ?_ <;> intro hc)
 |refine wB ?_ ?_
 |(with_reducible refine JL.block ?_)
 |(with_reducible refine F_at ?_); refine eW (vs := [(_, _)]) Tryz.results202 ?_; (focus (repeat' (first | exact oA | refine oB ?_ | refine oC ?_ ?_ | fail)))
 |exact oM
 |fail)
 all_goals first
  | rfl
  | (unfold blankP; simp_all; done)
  | trace_state
theorem pblank_fn (v : ValD) : FnSound Tryz.prog 198 [.val true (valC v)] [] { vals := [(false, [.d (.v (.bool (blankP v)))])] } := by
 refine startW (tm := [(0, _)]) Tryz.func198 rfl Tryz.ntmps198 rfl rfl rfl rfl ?_
 repeat' (first
 |(with_reducible refine K_ca 202 ?_); refine zC (psame0_fn v) ?_
 |refine wA ?_
 |(refine wC ?_ ?_ <;> intro hc)
 |refine wB ?_ ?_
 |(with_reducible refine JL.block ?_)
 |(with_reducible refine F_at ?_); refine eW (vs := [(_, _)]) Tryz.results198 ?_; (focus (repeat' (first | exact oA | refine oB ?_ | refine oC ?_ ?_ | fail)))
 |exact oM
 |fail)
 all_goals first | rfl | trace_state
theorem memQ_next {l : List MemD} {k : Nat} (h : k < l.length) : (l.take (k + 1)).map (·.id) = (l.take k).map (·.id) ++ [(l.getD k nilM0).id] ∧ (l.take (k + 1)).map (·.name) = (l.take k).map (·.name) ++ [(l.getD k nilM0).name] := by
 rw [List.take_add_one, List.map_append, List.map_append]
 simp [List.getD, h]
theorem memQ_ids (l : List MemD) : l.map (·.id) = idsQ (memQ l) ∧ l.map (·.name) = nmsQ (memQ l) := by
 unfold idsQ nmsQ memQ
 rw [List.map_map, List.map_map]
 exact ⟨rfl, rfl⟩
theorem mems_all {rec : Bool} {l : List MemD} {i : Nat} (hi : ∀ j, j < i → memP rec (l.getD j nilM0) = true) (he : l.length ≤ i) : l.all (memP rec) = true := all_yes (d := nilM0) (fun j hj => hi j (by omega))
theorem pmems_end {rec : Bool} {l : List MemD} {i : Nat} (hi : ∀ j, j < i → memP rec (l.getD j nilM0) = true) (he : l.length ≤ i) (h : rec = true ∨ 0 < (l.length : Int)) : (leftQ (memQ l) 0 && decide (((memQ l).length : Int) ≤ 16)) = memsP rec l := by
 rw [mems_eq, mems_all hi he, memQ_len]
 have e : (rec || decide (l ≠ [])) = true := by
  rcases h with h | h
  ·rw [h]; rfl
  ·rw [decide_eq_true (show l ≠ [] from fun e => by rw [e] at h; simp at h), Bool.or_true]
 rw [e]
 simp only [Bool.true_and]
 congr 1
 exact decide_eq_decide.2 (by omega)
theorem pmems_none {l : List MemD} (h : ¬ 0 < (l.length : Int)) : false = memsP false l := by
 obtain rfl : l = [] := List.length_eq_zero_iff.1 (by omega)
 rfl
theorem pmembers_fn (t : TypD) (hl : t.mems.length ≤ 5900000000000) (hk : t.kind = 5 ∨ t.kind = 6) : FnSound Tryz.prog 142 [.val true (typC t)] [] { vals := [(false, [.d (.v (.bool (memsP (decide (t.kind = 5)) t.mems)))])] } := by
 have hq := memQ_len t.mems
 have hm1 : ∀ k, ((t.mems.take k).map (·.id)).length = (t.mems.take k).length := fun k => List.length_map _
 have hm2 : ∀ k, ((t.mems.take k).map (·.name)).length = (t.mems.take k).length := fun k => List.length_map _
 have hc9 : ∀ i, t.mems.length ≤ i → FnSound Tryz.prog 197 [.val false [.d (.sl 1 (dInts ((t.mems.take i).map (·.id))))], .val false [.d (.sl 1 (dStrs ((t.mems.take i).map (·.name))))]] [] { vals := [(false, [.d (.v (.bool (leftQ (memQ t.mems) 0 && decide (((memQ t.mems).length : Int) ≤ 16))))])] } := fun i h => by
  have hc9 := pids_fn (memQ t.mems) (by omega)
  rw [List.take_of_length_le h, (memQ_ids t.mems).1, (memQ_ids t.mems).2]
  exact hc9
 refine startW (tm := [(0, _)]) Tryz.func142 rfl Tryz.ntmps142 rfl rfl rfl rfl ?_
 repeat' (first
 |(with_reducible refine rgL (fun g => g == 197) ?_ ?_); exact rfl
 |(with_reducible refine K_ca 198 ?_); refine zC (pblank_fn _) ?_
 |(with_reducible refine K_ca 197 ?_); refine zC (hc9 i (by omega)) ?_
 |(with_reducible refine W_at ?_); (first
 |(with_reducible refine W.consA ?_)
 |(with_reducible refine W.nilA ?_))
 |(with_reducible refine blk_at (id := 0) ?_); (try (refine JL.zeroW 3 _ 3 1 rfl rfl ?_)); (refine JL.rekW 3 (1048, 451) rfl rfl rfl rfl ?_); (try (refine JL.zeroW 4 _ 9 1 rfl rfl ?_)); (refine JL.rekW 4 (1064, 453) rfl rfl rfl rfl ?_); ((with_reducible refine JL.loopW 0 499 (fun (i : Nat) tm => (10, .one false [.d (.v (.int .i64 ((i : Int))))]) :: (3, .one false [.own (1048, 451)]) :: (4, .one false [.own (1064, 453)]) :: tm) (fun (i : Nat) bo => ((1048, 451), some (.sl 3 1 ((dInts ((t.mems.take i).map (·.id)))))) :: ((1064, 453), some (.sl 9 1 ((dStrs ((t.mems.take i).map (·.name)))))) :: bo) (fun (i : Nat) => i ≤ t.mems.length ∧ ∀ j, j < i → memP (decide (t.kind = 5)) (t.mems.getD j nilM0) = true) (fun (i : Nat) => t.mems.length - i) (0) ?_ (fun i hi => have h1 := hm1 i; have h2 := hm2 i; have h3 := List.length_take (i := i) (l := t.mems); ?_) ?_); (focus (apply SubW [((1048, 451), _), ((1064, 453), _)] rfl ?_ ?_ rfl ?_; (repeat' (first | exact kA | refine kB ?_ | refine kC ?_ ?_ | exact kD | fail)))))
 |((with_reducible refine round_next (i := i) (i + 1) ?_ ?_ ?_); (focus (apply SubW [((1048, 451), _), ((1064, 453), _)] rfl ?_ ?_ rfl ?_; (repeat' (first | exact kA | refine kB ?_ | refine kC ?_ ?_ | exact kD | fail)))))
 |refine wA ?_
 |(refine wC ?_ ?_ <;> intro hc)
 |refine wB ?_ ?_
 |(with_reducible refine JL.block ?_)
 |(with_reducible refine F_at ?_); refine eW (vs := [(_, _)]) Tryz.results142 ?_; (focus (repeat' (first | exact oA | refine oB ?_ | refine oC ?_ ?_ | fail)))
 |exact oM
 |fail)
 all_goals first
  | with_reducible rfl
  | omega
  | exact ⟨Nat.zero_le _, fun j hj => absurd hj (Nat.not_lt_zero j)⟩
  | rfl
  | (rw [(memQ_next (by omega)).1]; done)
  | (rw [(memQ_next (by omega)).2]; done)
  | (refine mems_bad (i := i) (by omega) ?_; unfold memP; simp_all; done)
  | (refine ⟨by omega, lt_next hi.2 ?_⟩; unfold memP; simp_all; done)
  | exact pmems_end hi.2 (by omega) (.inl (decide_eq_true (by assumption)))
  | exact pmems_end hi.2 (by omega) (.inr (by omega))
  | (rw [decide_eq_false (by assumption)]; exact pmems_none (by omega))
  | trace_state
end Go.Proofs.YtjpdemikmdfonaaGreatDoor

namespace Go.Proofs.YtjpdemikmdfonaaGreatDoor
open Go Go.RowKit
set_option maxRecDepth 100000
set_option maxHeartbeats 8000000
set_option linter.unusedSimpArgs false
set_option linter.unusedVariables false
def zeroTC : List C := [.d (.v (.int .i64 0)), .d (.v (.string ByteArray.empty)), .d (.v (.int .i64 0)), .d (.v (.int .i64 0)), .d (.v (.int .i64 0)), .zero, .zero, .d (.v (.int .i64 0)), .d (.v (.int .i64 0)), .d (.v (.bool false))]
theorem eqSyms_nil (l : List SymD) : FnSound Tryz.prog 199 [.val false [.d (.sl 2 (dSyms l))], .val false [.zero]] [] { vals := [(false, [.d (.v (.bool l.isEmpty))])] } := by
 refine startW (tm := [(0, _), (1, _)]) Tryz.func199 rfl Tryz.ntmps199 rfl rfl rfl rfl ?_
 repeat' (first
 |(with_reducible refine blk_at (id := 0) ?_); ((with_reducible refine JL.loopW 0 499 (fun (k : Nat) tm => (13, .one false [.d (.v (.int .i64 ((k : Int))))]) :: tm) (fun (k : Nat) bo => bo) (fun (k : Nat) => k ≤ l.length ∧ l = []) (fun (k : Nat) => l.length - k) (0) ?_ (fun k hk => ?_) ?_); (focus (apply SubW [] rfl ?_ ?_ rfl ?_; (repeat' (first | exact kA | refine kB ?_ | refine kC ?_ ?_ | exact kD | fail)))))
 |((with_reducible refine round_next (i := k) (k + 1) ?_ ?_ ?_); (focus (apply SubW [] rfl ?_ ?_ rfl ?_; (repeat' (first | exact kA | refine kB ?_ | refine kC ?_ ?_ | exact kD | fail)))))
 |refine wA ?_
 |(refine wC ?_ ?_ <;> intro hc)
 |refine wB ?_ ?_
 |(with_reducible refine JL.block ?_)
 |(with_reducible refine F_at ?_); refine eW (vs := [(_, _)]) Tryz.results199 ?_; (focus (repeat' (first | exact oA | refine oB ?_ | refine oC ?_ ?_ | fail)))
 |exact oM
 |fail)
 all_goals first
  | rfl
  | omega
  | (rw [hk.2]; rfl)
  | exact ⟨Nat.zero_le _, List.length_eq_zero_iff.1 (by omega)⟩
  | (exfalso; rw [hk.2] at hc; simp at hc; done)
  | (cases l with
     | nil => exact absurd rfl hc
     | cons x r => rfl)
  | trace_state
theorem eqMems_nil (l : List MemD) (F : FuncId) : FnSound Tryz.prog 200 [.val false [.d (.sl 13 (dMems l))], .val false [.zero], .val false [.d (.v (.func (.func F) #[] #[]))]] [] { vals := [(false, [.d (.v (.bool l.isEmpty))])] } := by
 refine startW (tm := [(0, _), (1, _), (2, _)]) Tryz.func200 rfl Tryz.ntmps200 rfl rfl rfl rfl ?_
 repeat' (first
 |(with_reducible refine blk_at (id := 0) ?_); ((with_reducible refine JL.loopW 0 499 (fun (k : Nat) tm => (17, .one false [.d (.v (.int .i64 ((k : Int))))]) :: tm) (fun (k : Nat) bo => bo) (fun (k : Nat) => k ≤ l.length ∧ l = []) (fun (k : Nat) => l.length - k) (0) ?_ (fun k hk => ?_) ?_); (focus (apply SubW [] rfl ?_ ?_ rfl ?_; (repeat' (first | exact kA | refine kB ?_ | refine kC ?_ ?_ | exact kD | fail)))))
 |((with_reducible refine round_next (i := k) (k + 1) ?_ ?_ ?_); (focus (apply SubW [] rfl ?_ ?_ rfl ?_; (repeat' (first | exact kA | refine kB ?_ | refine kC ?_ ?_ | exact kD | fail)))))
 |refine wA ?_
 |(refine wC ?_ ?_ <;> intro hc)
 |refine wB ?_ ?_
 |(with_reducible refine JL.block ?_)
 |(with_reducible refine F_at ?_); refine eW (vs := [(_, _)]) Tryz.results200 ?_; (focus (repeat' (first | exact oA | refine oB ?_ | refine oC ?_ ?_ | fail)))
 |exact oM
 |fail)
 all_goals first
  | rfl
  | omega
  | (rw [hk.2]; rfl)
  | exact ⟨Nat.zero_le _, List.length_eq_zero_iff.1 (by omega)⟩
  | (exfalso; rw [hk.2] at hc; simp at hc; done)
  | (cases l with
     | nil => exact absurd rfl hc
     | cons x r => rfl)
  | trace_state
def blankT (t : TypD) : Bool := decide (t.kind = 0) && decide (t.name = ByteArray.empty) && decide (t.low = 0) && decide (t.high = 0) && decide (t.max = 0) && decide (t.key = 0) && decide (t.elem = 0) && !t.opn && t.syms.isEmpty && t.mems.isEmpty
theorem pequal0_fn (t : TypD) : FnSound Tryz.prog 143 [.val true (typC t), .val true zeroTC] [] { vals := [(false, [.d (.v (.bool (blankT t)))])] } := by
 refine startW (tm := [(0, _), (1, _)]) Tryz.func143 rfl Tryz.ntmps143 rfl rfl rfl rfl ?_
 repeat' (first
 |(with_reducible refine K_ca 199 ?_); refine zC (eqSyms_nil _) ?_
 |(with_reducible refine K_ca 200 ?_); refine zC (eqMems_nil _ _) ?_
 |(with_reducible refine W_at ?_); (first
 |(with_reducible refine W.consA ?_)
 |(with_reducible refine W.nilA ?_))
 |refine wA ?_
 |(refine wC ?_ ?_ <;> intro hc)
 |refine wB ?_ ?_
 |(with_reducible refine JL.block ?_)
 |(with_reducible refine F_at ?_); refine eW (vs := [(_, _)]) Tryz.results143 ?_; (focus (repeat' (first | exact oA | refine oB ?_ | refine oC ?_ ?_ | fail)))
 |exact oM
 |fail)
 all_goals first
  | rfl
  | (unfold blankT; simp_all; done)
  | trace_state
def restT (t : TypD) : TypD :=
 ⟨0, if t.kind = 4 ∨ t.kind = 5 ∨ t.kind = 6 then ByteArray.empty else t.name, if t.kind = 2 then 0 else t.low, if t.kind = 2 then 0 else t.high, if t.kind = 3 ∨ t.kind = 7 ∨ t.kind = 8 then 0 else t.max, if t.kind = 4 then [] else t.syms, if t.kind = 5 ∨ t.kind = 6 then [] else t.mems, if t.kind = 8 then 0 else t.key, if 7 ≤ t.kind then 0 else t.elem, if t.kind = 4 ∨ t.kind = 6 then false else t.opn⟩
theorem rest_only {t : TypD} (h : 1 ≤ t.kind ∧ t.kind ≤ 9) : blankT (restT t) = onlyP t := by
 rw [Bool.eq_iff_iff]
 simp only [blankT, restT, onlyP, Bool.and_eq_true, Bool.or_eq_true, decide_eq_true_eq, List.isEmpty_iff, Bool.not_eq_true']
 grind
theorem form_eq {t : TypD} (h : 1 ≤ t.kind ∧ t.kind ≤ 9) : formP t = (blankT (restT t) && (!decide (t.kind = 4 ∨ t.kind = 5 ∨ t.kind = 6) || isNameP t.name) && (!decide (t.kind = 2) || decide (t.low ≤ t.high)) && (!decide (t.kind = 3) || decide (0 ≤ t.max ∧ t.max ≤ 200)) &&
 (!decide (t.kind = 4) || symsP t.syms) && (!decide (t.kind = 5 ∨ t.kind = 6) || memsP (decide (t.kind = 5)) t.mems) && (!decide (t.kind = 7 ∨ t.kind = 8) || decide (0 ≤ t.max ∧ t.max ≤ 50))) := by
 rw [rest_only h]
 unfold formP
 rw [decide_eq_true h, Bool.true_and]
theorem pform_fn (t : TypD) (hl : t.syms.length ≤ 5900000000000 ∧ t.mems.length ≤ 5900000000000) : FnSound Tryz.prog 104 [.val true (typC t)] [] { vals := [(false, [.d (.v (.bool (formP t)))])] } := by
 refine startW (tm := [(0, _)]) Tryz.func104 rfl Tryz.ntmps104 rfl rfl rfl rfl ?_
 repeat' (first
 |(with_reducible refine rgn 6 600 ?_ ?_); exact rfl
 |(with_reducible refine rgn 7 700 ?_ ?_); exact rfl
 |(with_reducible refine rgn 8 800 ?_ ?_); exact rfl
 |(with_reducible refine rgn 9 900 ?_ ?_); exact rfl
 |(with_reducible refine rgn 10 1000 ?_ ?_); exact rfl
 |(with_reducible refine rgn 11 1100 ?_ ?_); exact rfl
 |(with_reducible refine rgn 12 1200 ?_ ?_); exact rfl
 |(with_reducible refine rgn 13 1300 ?_ ?_); exact rfl
 |(with_reducible refine rgn 14 1400 ?_ ?_); exact rfl
 |(with_reducible refine rgn 15 1500 ?_ ?_); exact rfl
 |(with_reducible refine rgn 16 1600 ?_ ?_); exact rfl
 |(with_reducible refine rgn 17 1700 ?_ ?_); exact rfl
 |(with_reducible refine rgn 18 1800 ?_ ?_); exact rfl
 |(with_reducible refine rgn 19 1900 ?_ ?_); exact rfl
 |(with_reducible refine rgn 20 2000 ?_ ?_); exact rfl
 |(with_reducible refine rgn 21 2100 ?_ ?_); exact rfl
 |(with_reducible refine rgn 22 2200 ?_ ?_); exact rfl
 |(with_reducible refine rgn 23 2300 ?_ ?_); exact rfl
 |(with_reducible refine rgn 24 2400 ?_ ?_); exact rfl
 |(with_reducible refine rgn 25 2500 ?_ ?_); exact rfl
 |(with_reducible refine rgn 26 2600 ?_ ?_); exact rfl
 |(with_reducible refine rgn 27 2700 ?_ ?_); exact rfl
 |(with_reducible refine rgn 28 2800 ?_ ?_); exact rfl
 |(with_reducible refine rgn 5 2900 ?_ ?_); exact rfl
 |(with_reducible refine reg_at (id := 29) ?_); (try (refine JL.zeroBW (cs2 := [_, _, _, _, _, _, _, _, _, _]) (64, 200) 5 _ 296 2 rfl rfl rfl rfl ?_)); (try (refine JL.shutBW (cs2 := [_, _, _, _, _, _, _, _, _, _]) (64, 200) 5 rfl rfl rfl rfl ?_)); (try (refine JL.zeroBW (cs2 := [_, _, _, _, _, _, _, _, _, _]) (64, 200) 6 _ 120 13 rfl rfl rfl rfl ?_)); (try (refine JL.shutBW (cs2 := [_, _, _, _, _, _, _, _, _, _]) (64, 200) 6 rfl rfl rfl rfl ?_)); (with_reducible refine rg ?_ ?_); exact rfl
 |(with_reducible refine K_ca 15 ?_); refine zC (pname_fn _) ?_
 |(with_reducible refine K_ca 141 ?_); refine zC (psymbols_fn _ hl.1) ?_
 |(with_reducible refine K_ca 142 ?_); refine zC (pmembers_fn t hl.2 (by omega)) ?_
 |(with_reducible refine K_ca 143 ?_); (first
 |refine zC (pequal0_fn ⟨_, _, _, _, _, t.syms, t.mems, _, _, _⟩) ?_
 |refine zC (pequal0_fn ⟨_, _, _, _, _, [], t.mems, _, _, _⟩) ?_
 |refine zC (pequal0_fn ⟨_, _, _, _, _, t.syms, [], _, _, _⟩) ?_)
 |refine wA ?_
 |(refine wC ?_ ?_ <;> intro hc)
 |refine wB ?_ ?_
 |(with_reducible refine JL.block ?_)
 |(with_reducible refine F_at ?_); refine eW (vs := [(_, _)]) Tryz.results104 ?_; (focus (repeat' (first | exact oA | refine oB ?_ | refine oC ?_ ?_ | fail)))
 |exact oM
 |fail)
 all_goals first
  | with_reducible rfl
  | (rw [form_eq (by omega)]; unfold restT blankT; dsimp only; (try simp only [*]); simp; done)
  | (rw [form_eq (by omega)]; unfold restT blankT; dsimp only; simp_all; done)
  | (show blankT ⟨0, ByteArray.empty, t.low, t.high, t.max, [], t.mems, t.key, t.elem, false⟩ = formP t; rw [form_eq (by omega)]; unfold restT blankT; dsimp only; simp_all; done)
  | (show blankT ⟨0, ByteArray.empty, t.low, t.high, t.max, t.syms, [], t.key, t.elem, decide (t.kind = 5)⟩ = formP t; rw [form_eq (by omega)]; unfold restT blankT; dsimp only; simp_all; done)
  | (show blankT ⟨0, ByteArray.empty, t.low, t.high, t.max, t.syms, [], t.key, t.elem, false⟩ = formP t; rw [form_eq (by omega)]; unfold restT blankT; dsimp only; simp_all; done)
  | (unfold formP; rw [decide_eq_false (by omega)]; rfl)
  | trace_state
theorem puses_fn (t : TypD) (hm : t.mems.length ≤ 5900000000000) : FnSound Tryz.prog 105 [.val true (typC t)] [] { vals := [(false, [.d (.sl 1 (dInts (usesP t)))])] } := by
 refine startW (tm := [(0, _)]) Tryz.func105 rfl Tryz.ntmps105 rfl rfl rfl rfl ?_
 repeat' (first
 |(with_reducible refine blk_at (id := 0) ?_); (try (refine JL.zeroW 3 _ 3 1 rfl rfl ?_)); (refine JL.rekW 3 (1048, 351) rfl rfl rfl rfl ?_); ((with_reducible refine JL.loopW 0 399 (fun (k : Nat) tm => (9, .one false [.d (.v (.int .i64 ((k : Int))))]) :: (3, .one false [.own (1048, 351)]) :: tm) (fun (k : Nat) bo => ((1048, 351), some (.sl 3 1 ((dInts ((t.mems.take k).map (·.typ)))))) :: bo) (fun (k : Nat) => k ≤ t.mems.length) (fun (k : Nat) => t.mems.length - k) (0) ?_ (fun k hk => ?_) ?_); (focus (apply SubW [((1048, 351), _)] rfl ?_ ?_ rfl ?_; (repeat' (first | exact kA | refine kB ?_ | refine kC ?_ ?_ | exact kD | fail)))))
 |((with_reducible refine round_next (i := k) (k + 1) ?_ ?_ ?_); (focus (apply SubW [((1048, 351), _)] rfl ?_ ?_ rfl ?_; (repeat' (first | exact kA | refine kB ?_ | refine kC ?_ ?_ | exact kD | fail)))))
 |refine wA ?_
 |(refine wC ?_ ?_ <;> intro hc)
 |refine wB ?_ ?_
 |(with_reducible refine JL.block ?_)
 |(with_reducible refine F_at ?_); refine eW (vs := [(_, _)]) Tryz.results105 ?_; (focus (repeat' (first | exact oA | refine oB ?_ | refine oC ?_ ?_ | fail)))
 |exact oM
 |fail)
 all_goals first | rfl | omega | (rw [typ_next (by omega)]; done) | exact ⟨by simp, fun i hi => absurd hi (Nat.not_lt_zero i)⟩ | (refine congrArg dInts ?_; rw [List.take_of_length_le (by omega)]; unfold usesP; (repeat (first | rw [if_pos (by omega)] | rw [if_neg (by omega)])); (try simp); done) | trace_state
end Go.Proofs.YtjpdemikmdfonaaGreatDoor

namespace Go.Proofs.YtjpdemikmdfonaaGreatDoor
open Go Go.RowKit
set_option maxRecDepth 100000
set_option maxHeartbeats 8000000
set_option linter.unusedSimpArgs false
set_option linter.unusedVariables false
def nmsT (l : List TypD) : Nat → List ByteArray
 | 0 => []
 | i + 1 => addS (nmsT l i) (l.getD i nilT0).name
theorem hasS_add {l : List ByteArray} {s x : ByteArray} : hasS (addS l s) x = (hasS l x || decide (s = x)) := by
 unfold addS
 split
 ·rename_i h
  by_cases e : s = x
  ·subst e; rw [h]; rfl
  ·rw [decide_eq_false e, Bool.or_false]
 ·unfold hasS
  rw [List.any_append]
  simp
theorem nmsT_has (l : List TypD) (x : ByteArray) : ∀ i, hasS (nmsT l i) x = (List.range i).any fun k => decide ((l.getD k nilT0).name = x)
 | 0 => rfl
 | i + 1 => by
  unfold nmsT
  rw [hasS_add, nmsT_has l x i, List.range_succ, List.any_append]
  simp
theorem nmsT_dup (l : List TypD) (i : Nat) : hasS (nmsT l i) (l.getD i nilT0).name = dupT l i := nmsT_has l _ i
theorem name_named {t : TypD} (h : formP t = true) : ¬ t.name = ⟨#[]⟩ ↔ namedK t.kind = true := by
 unfold formP at h
 simp only [Bool.and_eq_true, Bool.or_eq_true, Bool.not_eq_true', decide_eq_false_iff_not, decide_eq_true_eq] at h
 obtain ⟨⟨⟨⟨⟨⟨⟨_, h1⟩, h2⟩, _⟩, _⟩, _⟩, _⟩, _⟩ := h
 unfold namedK
 rw [decide_eq_true_eq]
 constructor
 ·intro hn
  refine Decidable.by_contra fun g => hn ?_
  simp only [onlyP, Bool.and_eq_true, Bool.or_eq_true, decide_eq_true_eq] at h1
  exact h1.1.1.1.1.1.1.1.resolve_left g
 ·intro g hn
  have h3 := h2.resolve_left (not_not_intro g)
  rw [hn] at h3
  revert h3
  decide
theorem typ_dup2 {l : List TypD} {i : Nat} (h : formP (l.getD i nilT0) = true) (hn : ¬ (l.getD i nilT0).name = ⟨#[]⟩) (hd : hasS (nmsT l i) (l.getD i nilT0).name = true) : typErr l i = 1 := by
 unfold typErr; rw [if_pos (.inr ⟨(name_named h).1 hn, by rw [← nmsT_dup]; exact hd⟩)]
theorem typGo2 {l : List TypD} {i : Nat} (h : formP (l.getD i nilT0) = true) (hd : (l.getD i nilT0).name = ⟨#[]⟩ ∨ hasS (nmsT l i) (l.getD i nilT0).name = false) : typGo l i := by
 rintro (g | ⟨g, g2⟩)
 ·rw [h] at g; cases g
 ·rcases hd with hd | hd
  ·exact (name_named h).2 g hd
  ·rw [nmsT_dup, g2] at hd; cases hd
theorem pschema_fn (l : List TypD) (hs : smTs l) : FnSound Tryz.prog 79 [.val true (schC l)] [] { vals := [(false, [.d (.v (.int .i64 (schemaErr l)))])] } := by
 obtain ⟨hl, ht⟩ := hs
 have hur := fun (i : Nat) (h : i < l.length) => usesR_few (ht i h).1.2
 refine startW (tm := [(0, _)]) Tryz.func79 rfl Tryz.ntmps79 rfl rfl rfl rfl ?_
 repeat' (first
 |(with_reducible refine K_ca 104 ?_); (first
 |refine W.call0A rfl BoC.h (pform_fn _ (ht _ (by omega)).1) rfl rfl rfl ?_
 |refine W.call1A rfl BoC.h (pform_fn _ (ht _ (by omega)).1) rfl rfl rfl rfl rfl ?_)
 |(with_reducible refine K_ca 105 ?_); (first
 |refine W.call0A rfl BoC.h (puses_fn _ (ht _ (by omega)).1.2) rfl rfl rfl ?_
 |refine W.call1A rfl BoC.h (puses_fn _ (ht _ (by omega)).1.2) rfl rfl rfl rfl rfl ?_)
 |(with_reducible refine W_at ?_); (first
 |(refine W.mapNew _ rfl m64 ?_)
 |(refine W.mapGet mp_sb rfl rfl rfl rfl ?_)
 |(refine W.mapPut mp_sb rfl rfl rfl rfl ?_))
 |(with_reducible refine blk_at (id := 0) ?_); ((with_reducible refine JL.loopW 0 599 (fun (i : Nat) tm => (16, .one false [.d (.v (.int .i64 ((i : Int))))]) :: tm) (fun (i : Nat) bo => ((0, 400), some (.mp (mEnts 0 (nmsT l i)).toArray (nmsT l i).length)) :: bo) (fun (i : Nat) => i ≤ l.length ∧ ∀ j, j < i → typErr l j = 0) (fun (i : Nat) => l.length - i) (0) ?_ (fun i hi => ?_) ?_); (focus (apply SubW [] rfl ?_ ?_ rfl ?_; (repeat' (first | exact kA | refine kB ?_ | refine kC ?_ ?_ | exact kD | fail)))))
 |((with_reducible refine round_next (i := i) (i + 1) ?_ ?_ ?_); (focus (apply SubW [] rfl ?_ ?_ rfl ?_; (repeat' (first | exact kA | refine kB ?_ | refine kC ?_ ?_ | exact kD | fail)))))
 |(with_reducible refine blk_at (id := 2) ?_); ((with_reducible refine JL.loopW 2 1199 (fun (u : Nat) tm => (40, .one false [.d (.v (.int .i64 ((u : Int))))]) :: tm) (fun (u : Nat) bo => bo) (fun (u : Nat) => u ≤ (usesP (l.getD i nilT0)).length ∧ typGo l i ∧ ∀ j, j < u → outT l.length ((usesP (l.getD i nilT0)).getD j 0) = false) (fun (u : Nat) => (usesP (l.getD i nilT0)).length - u) (0) ?_ (fun u hu => have hui := hur i (by omega); have hus := usesR_eq (nf (b := formP (l.getD i nilT0)) (by assumption)); have hlen := congrArg List.length hus; ?_) ?_); (focus (apply SubW [] rfl ?_ ?_ rfl ?_; (repeat' (first | exact kA | refine kB ?_ | refine kC ?_ ?_ | exact kD | fail)))))
 |((with_reducible refine round_next (i := u) (u + 1) ?_ ?_ ?_); (focus (apply SubW [] rfl ?_ ?_ rfl ?_; (repeat' (first | exact kA | refine kB ?_ | refine kC ?_ ?_ | exact kD | fail)))))
 |refine wA ?_
 |(refine wC ?_ ?_ <;> intro hc)
 |refine wB ?_ ?_
 |(with_reducible refine JL.block ?_)
 |(with_reducible refine F_at ?_); refine eW (vs := [(_, _)]) Tryz.results79 ?_; (focus (repeat' (first | exact oA | refine oB ?_ | refine oC ?_ ?_ | fail)))
 |exact oM
 |fail)
 all_goals first
  | with_reducible rfl
  | omega
  | exact schema_many hc
  | exact schema_end (by assumption) hc hi.2
  | exact schema_at (by assumption) (by omega) hi.2 (typ_form (nt hc)) (by decide)
  | exact schema_at (by assumption) (by omega) hi.2 (typ_dup2 (nf (by assumption)) (by assumption) hc) (by decide)
  | exact schema_at (by assumption) (by omega) hi.2 (typ_out (j := u) hu.2.1 (by omega) (decide_eq_true (by omega))) (by decide)
  | exact ⟨by omega, hu.2.1, lt_next hu.2.2 (decide_eq_false (by omega))⟩
  | exact uses_key (by assumption) (fun j hj => hu.2.2 j (by omega))
  | (refine schema_at (by assumption) (by omega) hi.2 (typ_key hu.2.1 (fun j hj => hu.2.2 j (by omega)) ⟨by assumption, ?_⟩) (by decide); omega)
  | (refine ⟨by omega, lt_next hi.2 (typ_ok hu.2.1 (fun j hj => hu.2.2 j (by omega)) ?_)⟩; omega)
  | exact ⟨Nat.zero_le _, typGo2 (nf (by assumption)) (.inr (by assumption)), fun j hj => absurd hj (Nat.not_lt_zero j)⟩
  | exact ⟨Nat.zero_le _, typGo2 (nf (by assumption)) (.inl (by simpa using hc)), fun j hj => absurd hj (Nat.not_lt_zero j)⟩
  | exact ⟨Nat.zero_le _, fun j hj => absurd hj (Nat.not_lt_zero j)⟩
  | rfl
  | trace_state
end Go.Proofs.YtjpdemikmdfonaaGreatDoor

namespace Go.Proofs.YtjpdemikmdfonaaGreatDoor
open Go Go.RowKit
set_option linter.unusedSimpArgs false
set_option linter.unusedVariables false
section
variable {P : Program} {lend : FuncId → Bool} {N : Nat} {ops : Array Oper} {dr : Bool} {cs : List Code} {R : AX → St → Prop} {i : Nat} {os : List Oper} {tm : List (Nat × AV)} {bo : BO} {nx : Nat} {ns : List Note} {d : Nat} {pos : String} {ty : TypeId} {af : Array Edge}
theorem W.mkfn {g : FuncId} {cap : Array Operand} {cps : List Cap} (hd : Nat.blt d N = true) (he : effMakeFunc (.func g) [] cap.toList (onlyT ⟨some d, .makeFunc (.func g) #[] cap, ty, pos, af, none⟩ (lk tm)) = some { av := .one false [.fn g cps] })
    (h : W P lend N ops dr cs R (i + 1) os ((d, .one false [.fn g cps]) :: tm) bo nx (ns ++ [⟨opKeys (lk tm) (lko bo) ⟨some d, .makeFunc (.func g) #[] cap, ty, pos, af, none⟩, []⟩])) : W P lend N ops dr cs R i (⟨some d, .makeFunc (.func g) #[] cap, ty, pos, af, none⟩ :: os) tm bo nx ns :=
 W.eff (call := fun _ _ _ => none) (fun _ _ _ _ h => by cases h) rfl (fun k hk => by cases hk; exact Nat.le_of_ble_eq_true hd) he (updT_cons _ _ _) (updB_0 bo) h
theorem W.callC {f : Operand} {g : FuncId} {args : Array Operand} {tyq : Array TypeId} {xs : List (Bool × List C)} {caps cz : List C} {z : List Key} {c0 : C} {b : Bool} {cr : List C} (hd : Nat.blt d N = true) (hbod : BoI P g) (hcal : calleeOf (onlyT ⟨some d, .call ⟨.value f, args, tyq⟩, ty, pos, af, none⟩ (lk tm)) f = some (g, c0 :: caps))
    (ha : argsOf (onlyT ⟨some d, .call ⟨.value f, args, tyq⟩, ty, pos, af, none⟩ (lk tm)) (onlyB (opKeys (lk tm) (lko bo) ⟨some d, .call ⟨.value f, args, tyq⟩, ty, pos, af, none⟩) (lko bo)) true args.toList = some (xs, []))
    (hz : argVals (onlyB (opKeys (lk tm) (lko bo) ⟨some d, .call ⟨.value f, args, tyq⟩, ty, pos, af, none⟩) (lko bo)) true (c0 :: caps) = some (cz, z))
    (hK : FnSound P g ((xs ++ cz.map fun c => (false, [c])).map fun y => Arg.val y.1 y.2) [] { vals := [(b, cr)] })
    (hr : resOk { vals := [(b, cr)] } true = true) (hcl : ARes.closed { vals := [(b, cr)] } = true)
    (h : W P lend N ops dr cs R (i + 1) os ((d, .one b cr) :: tm) bo nx (ns ++ [⟨opKeys (lk tm) (lko bo) ⟨some d, .call ⟨.value f, args, tyq⟩, ty, pos, af, none⟩, []⟩])) : W P lend N ops dr cs R i (⟨some d, .call ⟨.value f, args, tyq⟩, ty, pos, af, none⟩ :: os) tm bo nx ns := by
 obtain ⟨hbod⟩ := hbod
 refine W.eff (call := oneCall g ((xs ++ cz.map fun c => (false, [c])).map fun y => Arg.val y.1 y.2) { vals := [(b, cr)] }) (oneCall_ok hK) rfl (fun k hk => by cases hk; exact Nat.le_of_ble_eq_true hd) ?_ (updT_cons _ _ _) (updB_0 bo) h
 simp only [effOf]
 unfold effCall effCall0
 simp only [hcal, List.isEmpty_cons, Bool.not_false, Bool.or_true, ha, hz]
 rw [if_pos hbod]
 unfold effVal
 have h5 : oneCall g ((xs ++ cz.map fun c => (false, [c])).map fun y => Arg.val y.1 y.2) { vals := [(b, cr)] } g ((xs ++ cz.map fun c => (false, [c])).map fun x => Arg.val x.1 x.2) [] = some { vals := [(b, cr)] } := by
  unfold oneCall; simp
 have hk : renK (keyAt i nx) [] 0 = fun q => q := by funext q; rfl
 simp only [resOk, Bool.and_eq_true, Bool.or_eq_true, Bool.not_eq_true', List.isEmpty_iff] at hr
 have hsc : ARes.scalars { vals := [(b, cr)] } = true := by
  have := hr.2.resolve_left (by decide)
  simp only [ARes.scalars, List.isEmpty_nil, Bool.true_and]; exact this
 simp only [h5]
 rw [if_pos ⟨rfl, by simp, .inr hsc, hcl, rfl, rfl⟩]
 simp only [hk, resAV_vals, takeBx, List.nil_append, shut, List.filter_nil, List.filterMap_nil]
 rfl
end
end Go.Proofs.YtjpdemikmdfonaaGreatDoor

namespace Go.Proofs.YtjpdemikmdfonaaGreatDoor
open Go Go.RowKit
set_option maxRecDepth 100000
set_option maxHeartbeats 8000000
set_option linter.unusedSimpArgs false
set_option linter.unusedVariables false
def symC (x : SymD) : List C := [.d (.v (.int .i64 x.id)), .d (.v (.string x.name))]
theorem sym1_fn (x : SymD) (id : Int) : FnSound Tryz.prog 255 [.val true (symC x), .val false [.rptr [.v (.int .i64 id)] 0]] [] { vals := [(false, [.d (.v (.bool (decide (x.id = id))))])] } := by
 refine startW (tm := [(0, _), (1, _)]) Tryz.func255 rfl Tryz.ntmps255 rfl rfl rfl rfl ?_
 repeat' (first
 |refine wA ?_
 |(refine wC ?_ ?_ <;> intro hc)
 |refine wB ?_ ?_
 |(with_reducible refine JL.block ?_)
 |(with_reducible refine F_at ?_); refine eW (vs := [(_, _)]) Tryz.results255 ?_; (focus (repeat' (first | exact oA | refine oB ?_ | refine oC ?_ ?_ | fail)))
 |exact oM
 |fail)
 all_goals first | rfl | trace_state
theorem bo_sym1 : BoI Tryz.prog 255 := ⟨by kernel_rfl⟩
def symI (l : List SymD) (id : Int) : Int := match symAt l id with
 | some k => (k : Int)
 | none => -1
theorem symI_some {l : List SymD} {id : Int} {k : Nat} (hk : k < l.length) (h : ∀ i, i < k → ¬ (l.getD i nilSy).id = id) (he : (l.getD k nilSy).id = id) : (k : Int) = symI l id := by
 unfold symI; rw [symAt_some hk h he]
theorem symI_none {l : List SymD} {id : Int} (h : ∀ i, i < l.length → ¬ (l.getD i nilSy).id = id) : -1 = symI l id := by
 unfold symI; rw [symAt_none h]
theorem symX_fn (l : List SymD) (id : Int) (hl : l.length ≤ 5900000000000) : FnSound Tryz.prog 254 [.val false [.d (.sl 2 (dSyms l))], .val false [.fn 255 [.rptr [.v (.int .i64 id)] 0]]] [] { vals := [(false, [.d (.v (.int .i64 (symI l id)))])] } := by
 refine startW (tm := [(0, _), (1, _)]) Tryz.func254 rfl Tryz.ntmps254 rfl rfl rfl rfl ?_
 repeat' (first
 |(with_reducible refine W_at ?_); (first
 |(refine W.callC rfl bo_sym1 rfl rfl rfl (sym1_fn (l.getD k nilSy) id) rfl rfl ?_))
 |(with_reducible refine blk_at (id := 0) ?_); ((with_reducible refine JL.loopW 0 299 (fun (k : Nat) tm => (8, .one false [.d (.v (.int .i64 ((k : Int))))]) :: tm) (fun (k : Nat) bo => bo) (fun (k : Nat) => k ≤ l.length ∧ ∀ i, i < k → ¬ (l.getD i nilSy).id = id) (fun (k : Nat) => l.length - k) (0) ?_ (fun k hk => ?_) ?_); (focus (apply SubW [] rfl ?_ ?_ rfl ?_; (repeat' (first | exact kA | refine kB ?_ | refine kC ?_ ?_ | exact kD | fail)))))
 |((with_reducible refine round_next (i := k) (k + 1) ?_ ?_ ?_); (focus (apply SubW [] rfl ?_ ?_ rfl ?_; (repeat' (first | exact kA | refine kB ?_ | refine kC ?_ ?_ | exact kD | fail)))))
 |refine wA ?_
 |(refine wC ?_ ?_ <;> intro hc)
 |refine wB ?_ ?_
 |(with_reducible refine JL.block ?_)
 |(with_reducible refine F_at ?_); refine eW (vs := [(_, _)]) Tryz.results254 ?_; (focus (repeat' (first | exact oA | refine oB ?_ | refine oC ?_ ?_ | fail)))
 |exact oM
 |fail)
 all_goals first
  | with_reducible rfl
  | omega
  | exact ⟨Nat.zero_le _, fun i hi => absurd hi (Nat.not_lt_zero i)⟩
  | exact ⟨by omega, lt_next hk.2 hc⟩
  | exact symI_some (by omega) hk.2 hc
  | exact symI_none (fun i hi => hk.2 i (by omega))
  | trace_state
theorem mem1_fn (x : MemD) (id : Int) : FnSound Tryz.prog 253 [.val true (memC x), .val false [.rptr [.v (.int .i64 id)] 0]] [] { vals := [(false, [.d (.v (.bool (decide (x.id = id))))])] } := by
 refine startW (tm := [(0, _), (1, _)]) Tryz.func253 rfl Tryz.ntmps253 rfl rfl rfl rfl ?_
 repeat' (first
 |refine wA ?_
 |(refine wC ?_ ?_ <;> intro hc)
 |refine wB ?_ ?_
 |(with_reducible refine JL.block ?_)
 |(with_reducible refine F_at ?_); refine eW (vs := [(_, _)]) Tryz.results253 ?_; (focus (repeat' (first | exact oA | refine oB ?_ | refine oC ?_ ?_ | fail)))
 |exact oM
 |fail)
 all_goals first | rfl | trace_state
theorem bo_mem1 : BoI Tryz.prog 253 := ⟨by kernel_rfl⟩
def memI (l : List MemD) (id : Int) : Int := match memAt l id with
 | some k => (k : Int)
 | none => -1
theorem memI_some {l : List MemD} {id : Int} {k : Nat} (hk : k < l.length) (h : ∀ i, i < k → ¬ (l.getD i nilM0).id = id) (he : (l.getD k nilM0).id = id) : (k : Int) = memI l id := by
 unfold memI; rw [memAt_some hk h he]
theorem memI_none {l : List MemD} {id : Int} (h : ∀ i, i < l.length → ¬ (l.getD i nilM0).id = id) : -1 = memI l id := by
 unfold memI; rw [memAt_none h]
theorem memX_fn (l : List MemD) (id : Int) (hl : l.length ≤ 5900000000000) : FnSound Tryz.prog 252 [.val false [.d (.sl 13 (dMems l))], .val false [.fn 253 [.rptr [.v (.int .i64 id)] 0]]] [] { vals := [(false, [.d (.v (.int .i64 (memI l id)))])] } := by
 refine startW (tm := [(0, _), (1, _)]) Tryz.func252 rfl Tryz.ntmps252 rfl rfl rfl rfl ?_
 repeat' (first
 |(with_reducible refine W_at ?_); (first
 |(refine W.callC rfl bo_mem1 rfl rfl rfl (mem1_fn (l.getD k nilM0) id) rfl rfl ?_))
 |(with_reducible refine blk_at (id := 0) ?_); ((with_reducible refine JL.loopW 0 299 (fun (k : Nat) tm => (8, .one false [.d (.v (.int .i64 ((k : Int))))]) :: tm) (fun (k : Nat) bo => bo) (fun (k : Nat) => k ≤ l.length ∧ ∀ i, i < k → ¬ (l.getD i nilM0).id = id) (fun (k : Nat) => l.length - k) (0) ?_ (fun k hk => ?_) ?_); (focus (apply SubW [] rfl ?_ ?_ rfl ?_; (repeat' (first | exact kA | refine kB ?_ | refine kC ?_ ?_ | exact kD | fail)))))
 |((with_reducible refine round_next (i := k) (k + 1) ?_ ?_ ?_); (focus (apply SubW [] rfl ?_ ?_ rfl ?_; (repeat' (first | exact kA | refine kB ?_ | refine kC ?_ ?_ | exact kD | fail)))))
 |refine wA ?_
 |(refine wC ?_ ?_ <;> intro hc)
 |refine wB ?_ ?_
 |(with_reducible refine JL.block ?_)
 |(with_reducible refine F_at ?_); refine eW (vs := [(_, _)]) Tryz.results252 ?_; (focus (repeat' (first | exact oA | refine oB ?_ | refine oC ?_ ?_ | fail)))
 |exact oM
 |fail)
 all_goals first
  | with_reducible rfl
  | omega
  | exact ⟨Nat.zero_le _, fun i hi => absurd hi (Nat.not_lt_zero i)⟩
  | exact ⟨by omega, lt_next hk.2 hc⟩
  | exact memI_some (by omega) hk.2 hc
  | exact memI_none (fun i hi => hk.2 i (by omega))
  | trace_state
theorem psym_fn (t : TypD) (id : Int) (hl : t.syms.length ≤ 5900000000000) : FnSound Tryz.prog 193 [.val true (typC t), .val false [.d (.v (.int .i64 id))]] [] { vals := [(false, [.d (.v (.int .i64 (((symAt t.syms id).getD 0 : Nat) : Int)))]), (false, [.d (.v (.bool (symAt t.syms id).isSome))])] } := by
 refine startW (tm := [(0, _), (1, _)]) Tryz.func193 rfl Tryz.ntmps193 rfl rfl rfl rfl ?_
 repeat' (first
 |(with_reducible refine rgL (fun g => g == 254) ?_ ?_); exact rfl
 |(with_reducible refine K_ca 254 ?_); refine zC (symX_fn t.syms id hl) ?_
 |(with_reducible refine W_at ?_); (first
 |(refine W.mkfn rfl rfl ?_))
 |refine wA ?_
 |(refine wC ?_ ?_ <;> intro hc)
 |refine wB ?_ ?_
 |(with_reducible refine JL.block ?_)
 |(with_reducible refine F_at ?_); refine eW (vs := [(_, _), (_, _)]) Tryz.results193 ?_; (focus (repeat' (first | exact oA | refine oB ?_ | refine oC ?_ ?_ | fail)))
 |exact oM
 |fail)
 all_goals first
  | with_reducible rfl
  | (unfold symI; cases symAt t.syms id with
     | none => rfl
     | some k => simp; done)
  | (unfold symI; cases symAt t.syms id with
     | none => rfl
     | some k => simp <;> omega)
  | trace_state
theorem pmem_fn (t : TypD) (id : Int) (hl : t.mems.length ≤ 5900000000000) : FnSound Tryz.prog 192 [.val true (typC t), .val false [.d (.v (.int .i64 id))]] [] { vals := [(false, [.d (.v (.int .i64 (((memAt t.mems id).getD 0 : Nat) : Int)))]), (false, [.d (.v (.bool (memAt t.mems id).isSome))])] } := by
 refine startW (tm := [(0, _), (1, _)]) Tryz.func192 rfl Tryz.ntmps192 rfl rfl rfl rfl ?_
 repeat' (first
 |(with_reducible refine rgL (fun g => g == 252) ?_ ?_); exact rfl
 |(with_reducible refine K_ca 252 ?_); refine zC (memX_fn t.mems id hl) ?_
 |(with_reducible refine W_at ?_); (first
 |(refine W.mkfn rfl rfl ?_))
 |refine wA ?_
 |(refine wC ?_ ?_ <;> intro hc)
 |refine wB ?_ ?_
 |(with_reducible refine JL.block ?_)
 |(with_reducible refine F_at ?_); refine eW (vs := [(_, _), (_, _)]) Tryz.results192 ?_; (focus (repeat' (first | exact oA | refine oB ?_ | refine oC ?_ ?_ | fail)))
 |exact oM
 |fail)
 all_goals first
  | with_reducible rfl
  | (unfold memI; cases memAt t.mems id with
     | none => rfl
     | some k => simp; done)
  | (unfold memI; cases memAt t.mems id with
     | none => rfl
     | some k => simp <;> omega)
  | trace_state
end Go.Proofs.YtjpdemikmdfonaaGreatDoor

