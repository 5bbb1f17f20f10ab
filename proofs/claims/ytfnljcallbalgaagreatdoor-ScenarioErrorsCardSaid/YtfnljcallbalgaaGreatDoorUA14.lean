/- Rules of runs and contracts of functions, for the claims of one seat. -/
import Derived.Test.YtfnljcallbalgaaGreatDoorUA10
import Derived.Test.YtfnljcallbalgaaGreatDoorUA11
import Derived.Test.YtfnljcallbalgaaGreatDoorUA13
namespace Go.Proofs.YtfnljcallbalgaaGreatDoor
open Go Go.RowKit
set_option maxRecDepth 100000
set_option maxHeartbeats 8000000
set_option linter.unusedSimpArgs false
set_option linter.unusedVariables false
theorem u8s_get {l : List Int} (h : u8s l) (k : Nat) : 0 ≤ l.getD k 0 ∧ l.getD k 0 < 256 := by
 rw [List.getD_eq_getElem?_getD]
 by_cases hk : k < l.length
 ·rw [List.getElem?_eq_getElem hk]; exact h _ (List.getElem_mem hk)
 ·rw [List.getElem?_eq_none (by omega)]; simp
theorem stored_fn (t : Tab) : FnSound Tryz.prog 93 [.val true (tabC t)] [] { vals := [(false, [.d (.v (.bool (storedB t.kind)))])] } := by
 refine startW (tm := [(0, _)]) Tryz.func93 rfl Tryz.ntmps93 rfl rfl rfl rfl ?_
 repeat' (first
 |refine wA ?_
 |(refine wC ?_ ?_ <;> intro hc)
 |refine wB ?_ ?_
 |(with_reducible refine JL.block ?_)
 |(with_reducible refine F_at ?_); refine eW (vs := [(_, _)]) Tryz.results93 ?_; (focus (repeat' (first | exact oA | refine oB ?_ | refine oC ?_ ?_ | fail)))
 |exact oM
 |fail)
 all_goals simp [storedB, *]
theorem sqRows_next {l : List (List Bool)} {k : Nat} {m : Int} (h : sqRows (l.take k) m = true) (hk : k < l.length) (he : ((l.getD k []).length : Int) = m) : sqRows (l.take (k + 1)) m = true := by
 rw [← take_snoc (d := []) hk]
 unfold sqRows at h ⊢
 rw [List.all_append, h]
 simp only [List.all_cons, List.all_nil, Bool.and_true, Bool.true_and, beq_iff_eq]
 exact he
theorem sqRows_no {l : List (List Bool)} {k : Nat} {m : Int} (hk : k < l.length) (he : ¬ ((l.getD k []).length : Int) = m) : sqRows l m = false := by
 unfold sqRows
 rw [List.all_eq_false]
 exact ⟨l.getD k [], by rw [List.getD_eq_getElem?_getD, List.getElem?_eq_getElem hk]; exact List.getElem_mem hk, by simpa using he⟩
theorem sq_all {l : List (List Bool)} {m : Int} {k : Nat} (h : sqRows (l.take k) m = true) (hk : l.length ≤ k) : sqRows l m = true := by rw [← take_len hk]; exact h
theorem square_fn (l : List (List Bool)) (n m : Int) (hn : n ≤ 6) : FnSound Tryz.prog 141 [.val false [.d (.sl 1 (dMat l))], .val false [.d (.v (.int .i64 n))], .val false [.d (.v (.int .i64 m))]] [] { vals := [(false, [.d (.v (.bool (sq l n m)))])] } := by
 refine startW (tm := [(0, _), (1, _), (2, _)]) Tryz.func141 rfl Tryz.ntmps141 rfl rfl rfl rfl ?_
 repeat' (first
 |(with_reducible refine rgn 6 600 ?_ ?_); exact rfl
 |(with_reducible refine rgn 7 700 ?_ ?_); exact rfl
 |(with_reducible refine rgn 5 800 ?_ ?_); exact rfl
 |(with_reducible refine blk_at (id := 0) ?_); ((with_reducible refine JL.loopW 0 499 (fun (k : Nat) tm => (7, .one false [.d (.v (.int .i64 ((k : Int))))]) :: tm) (fun (k : Nat) bo => bo) (fun (k : Nat) => (k : Int) ≤ n ∧ (l.length : Int) = n ∧ sqRows (l.take k) m = true) (fun (k : Nat) => n.toNat - k) (0) ?_ (fun k hk => ?_) ?_); (focus (apply SubW [] rfl ?_ ?_ rfl ?_; (repeat' (first | exact kA | refine kB ?_ | refine kC ?_ ?_ | exact kD | fail)))))
 |((with_reducible refine round_next (i := k) (k + 1) ?_ ?_ ?_); (focus (apply SubW [] rfl ?_ ?_ rfl ?_; (repeat' (first | exact kA | refine kB ?_ | refine kC ?_ ?_ | exact kD | fail)))))
 |refine wA ?_
 |(refine wC ?_ ?_ <;> intro hc)
 |refine wB ?_ ?_
 |(with_reducible refine JL.block ?_)
 |(with_reducible refine F_at ?_); refine eW (vs := [(_, _)]) Tryz.results141 ?_; (focus (repeat' (first | exact oA | refine oB ?_ | refine oC ?_ ?_ | fail)))
 |exact oM
 |fail)
 ·simp [sq, hc]
 ·have := sqRows_no (by omega) hc; simp [sq, this]
 ·exact ⟨by omega, hk.2.1, sqRows_next hk.2.2 (by omega) hc⟩
 ·have := sq_all hk.2.2 (by omega); simp [sq, this, hk.2.1]
 ·exact ⟨by omega, hc, rfl⟩
theorem diag_at {l : List (List Bool)} : ∀ {k i : Nat}, k < l.length → (l.getD k []).getD (i + k) false = false → diagFrom l i = false := by
 induction l with
 | nil => intro k i h; simp at h
 | cons r l ih =>
  intro k i hk he
  unfold diagFrom
  cases k with
  | zero => simp at he; simp [he]
  | succ k =>
   rw [ih (k := k) (i := i + 1) (by simpa using hk) (by simpa [show i + 1 + k = i + (k + 1) by omega] using he)]
   simp
theorem diag_all {l : List (List Bool)} : ∀ {i : Nat}, (∀ k, k < l.length → (l.getD k []).getD (i + k) false = true) → diagFrom l i = true := by
 induction l with
 | nil => intro i _; rfl
 | cons r l ih =>
  intro i h
  unfold diagFrom
  rw [show r.getD i false = true from by simpa using h 0 (by simp), ih fun k hk => by
   have := h (k + 1) (by simpa using hk)
   simpa [show i + 1 + k = i + (k + 1) by omega] using this]
  rfl
theorem sq_row {l : List (List Bool)} {n m : Int} {k : Nat} (h : sq l n m = true) (hk : k < l.length) : ((l.getD k []).length : Int) = m ∧ (l.length : Int) = n := by
 simp only [sq, Bool.and_eq_true, beq_iff_eq] at h
 refine ⟨?_, h.1⟩
 have h2 := h.2
 unfold sqRows at h2
 rw [List.all_eq_true] at h2
 have := h2 (l.getD k []) (by rw [List.getD_eq_getElem?_getD, List.getElem?_eq_getElem hk]; exact List.getElem_mem hk)
 simpa using this
theorem diag_nil {l : List (List Bool)} (h : l.length = 0) : diagFrom l 0 = true := by
 obtain rfl := List.length_eq_zero_iff.1 h; rfl
theorem table_fn (p : Prob) (t : Tab) (hv : ∀ k, p.vs.getD k 0 ≤ 6) (hl : p.vs.length ≤ 6) : FnSound Tryz.prog 94 [.val true (probC p), .val true (tabC t)] [] { vals := [(false, [.d (.v (.int .i64 (tabErr p.vs t)))])] } := by
 have v1 := hv t.frm.toNat
 have v2 := hv t.tto.toNat
 have d0 := diag_nil (l := t.rw)
 have d1 : ∀ k : Nat, k < t.rw.length → (t.rw.getD k []).getD k false = false → diagFrom t.rw 0 = false := fun k h1 h2 => diag_at h1 (by rw [Nat.zero_add]; exact h2)
 have d2 : ∀ k : Nat, (∀ j, j < k → (t.rw.getD j []).getD j false = true) → t.rw.length ≤ k → diagFrom t.rw 0 = true := fun k h hk => diag_all fun j hj => by rw [Nat.zero_add]; exact h j (by omega)
 have d3 : ∀ k : Nat, sq t.rw (p.vs.getD t.frm.toNat 0) (p.vs.getD t.frm.toNat 0) = true → k < t.rw.length → k < (t.rw.getD k []).length := fun k h hk => by have := sq_row h hk; omega
 have d4 : sq t.rw (p.vs.getD t.frm.toNat 0) (p.vs.getD t.frm.toNat 0) = true → t.rw.length ≤ 6 := fun h => by
  simp only [sq, Bool.and_eq_true, beq_iff_eq] at h; omega
 refine startW (tm := [(0, _), (1, _)]) Tryz.func94 rfl Tryz.ntmps94 rfl rfl rfl rfl ?_
 repeat' (first
 |(with_reducible refine rgn 17 1700 ?_ ?_); exact rfl
 |(with_reducible refine rgn 18 1800 ?_ ?_); exact rfl
 |(with_reducible refine rgn 16 1900 ?_ ?_); exact rfl
 |(with_reducible refine K_ca 93 ?_); refine zC (stored_fn t) ?_
 |(with_reducible refine K_ca 141 ?_); (first
 |refine zC (square_fn t.ok (p.vs.getD t.frm.toNat 0) (p.vs.getD t.tto.toNat 0) v1) ?_
 |refine zC (square_fn t.rw (p.vs.getD t.frm.toNat 0) (p.vs.getD t.frm.toNat 0) v1) ?_)
 |(with_reducible refine blk_at (id := 0) ?_); ((with_reducible refine JL.loopW 0 1599 (fun (k : Nat) tm => (6, .one false [.d (.v (.int .i64 ((k : Int))))]) :: tm) (fun (k : Nat) bo => bo) (fun (k : Nat) => k ≤ t.rw.length ∧ t.rw.length ≤ 6 ∧ ∀ j, j < k → (t.rw.getD j []).getD j false = true) (fun (k : Nat) => t.rw.length - k) (0) ?_ (fun k hk => ?_) ?_); (focus (apply SubW [] rfl ?_ ?_ rfl ?_; (repeat' (first | exact kA | refine kB ?_ | refine kC ?_ ?_ | exact kD | fail)))))
 |((with_reducible refine round_next (i := k) (k + 1) ?_ ?_ ?_); (focus (apply SubW [] rfl ?_ ?_ rfl ?_; (repeat' (first | exact kA | refine kB ?_ | refine kC ?_ ?_ | exact kD | fail)))))
 |refine wA ?_
 |(refine wC ?_ ?_ <;> intro hc)
 |refine wB ?_ ?_
 |(with_reducible refine JL.block ?_)
 |(with_reducible refine F_at ?_); refine eW (vs := [(_, _)]) Tryz.results94 ?_; (focus (repeat' (first | exact oA | refine oB ?_ | refine oC ?_ ?_ | fail)))
 |exact oM
 |fail)
 all_goals first
  | (unfold tabErr kindOK withinB; grind)
  | exact ⟨Nat.zero_le _, d4 (by simpa using hc), fun j hj => absurd hj (Nat.not_lt_zero j)⟩
  | grind
theorem rng_of {p : Prob} (h1 : p.now.length = p.vs.length) (h2 : p.tgt.length = p.vs.length) : rngOK p.vs p.now p.tgt = true ↔ ∀ i, i < p.vs.length → (1 ≤ p.vs.getD i 0 ∧ p.vs.getD i 0 ≤ 6) ∧ (0 ≤ p.now.getD i 0 ∧ p.now.getD i 0 < p.vs.getD i 0) ∧ (0 ≤ p.tgt.getD i 0 ∧ p.tgt.getD i 0 < p.vs.getD i 0) := by
 rw [rngOK_get h1 h2]
 constructor
 ·intro h i hi
  have := h i hi
  simp only [withinB, decide_eq_true_eq] at this
  have e : p.vs.getD i 0 = p.vs[i] := by rw [List.getD_eq_getElem?_getD, List.getElem?_eq_getElem hi]; rfl
  rw [e]
  exact ⟨this.1, this.2.1, this.2.2⟩
 ·intro h i hi
  have := h i hi
  have e : p.vs.getD i 0 = p.vs[i] := by rw [List.getD_eq_getElem?_getD, List.getElem?_eq_getElem hi]; rfl
  rw [e] at this
  simp only [withinB, decide_eq_true_eq]
  exact ⟨this.1, this.2.1, this.2.2⟩
theorem tabs_at {vs : List Int} {l : List Tab} : ∀ {k : Nat}, k < l.length → (∀ j, j < k → tabErr vs (l.getD j nilT) = 0) → ¬ tabErr vs (l.getD k nilT) = 0 → tabsErr vs l = tabErr vs (l.getD k nilT) := by
 induction l with
 | nil => intro k h; simp at h
 | cons t l ih =>
  intro k hk h0 he
  unfold tabsErr
  cases k with
  | zero => rw [if_pos (by simpa using he)]; rfl
  | succ k =>
   rw [if_neg (by simpa using h0 0 (by omega))]
   exact ih (by simpa using hk) (fun j hj => h0 (j + 1) (by omega)) he
theorem tabs_all {vs : List Int} {l : List Tab} (h : ∀ j, j < l.length → tabErr vs (l.getD j nilT) = 0) : tabsErr vs l = 0 := by
 rw [tabsErr_zero]
 intro t ht
 obtain ⟨i, hi, rfl⟩ := List.getElem_of_mem ht
 have := h i hi
 rwa [List.getD_eq_getElem?_getD, List.getElem?_eq_getElem hi] at this
theorem rng_no {p : Prob} {k : Nat} (h : rngOK p.vs p.now p.tgt = true ↔ ∀ i, i < p.vs.length → (1 ≤ p.vs.getD i 0 ∧ p.vs.getD i 0 ≤ 6) ∧ (0 ≤ p.now.getD i 0 ∧ p.now.getD i 0 < p.vs.getD i 0) ∧ (0 ≤ p.tgt.getD i 0 ∧ p.tgt.getD i 0 < p.vs.getD i 0)) (hk : k < p.vs.length) (hn : ¬ ((1 ≤ p.vs.getD k 0 ∧ p.vs.getD k 0 ≤ 6) ∧ (0 ≤ p.now.getD k 0 ∧ p.now.getD k 0 < p.vs.getD k 0) ∧ (0 ≤ p.tgt.getD k 0 ∧ p.tgt.getD k 0 < p.vs.getD k 0))) : rngOK p.vs p.now p.tgt = false := by
 cases hr : rngOK p.vs p.now p.tgt with
 | false => rfl
 | true => exact absurd (h.1 hr k hk) hn
theorem rvp_fn (p : Prob) : FnSound Tryz.prog 51 [.val true (probC p)] [] { vals := [(false, [.d (.v (.int .i64 (vpErr p)))])] } := by
 have r0 := @rng_of p
 have hv : p.vs.length ≤ 6 → (∀ i, i < p.vs.length → (1 ≤ p.vs.getD i 0 ∧ p.vs.getD i 0 ≤ 6) ∧ (0 ≤ p.now.getD i 0 ∧ p.now.getD i 0 < p.vs.getD i 0) ∧ (0 ≤ p.tgt.getD i 0 ∧ p.tgt.getD i 0 < p.vs.getD i 0)) → ∀ k, p.vs.getD k 0 ≤ 6 := fun _ h k => by
  by_cases hk : k < p.vs.length
  ·exact (h k hk).1.2
  ·rw [List.getD_eq_getElem?_getD, List.getElem?_eq_none (by omega)]; decide
 refine startW (tm := [(0, _)]) Tryz.func51 rfl Tryz.ntmps51 rfl rfl rfl rfl ?_
 repeat' (first
 |(with_reducible refine rgn 8 800 ?_ ?_); exact rfl
 |(with_reducible refine rgn 9 900 ?_ ?_); exact rfl
 |(with_reducible refine rgn 10 1000 ?_ ?_); exact rfl
 |(with_reducible refine rgn 7 1100 ?_ ?_); exact rfl
 |(with_reducible refine rgn 14 1400 ?_ ?_); exact rfl
 |(with_reducible refine rgn 15 1500 ?_ ?_); exact rfl
 |(with_reducible refine rgn 16 1600 ?_ ?_); exact rfl
 |(with_reducible refine rgn 13 1700 ?_ ?_); exact rfl
 |(with_reducible refine K_ca 94 ?_); refine zC (table_fn p (p.tabs.getD j nilT) hvv (by omega)) ?_
 |(with_reducible refine blk_at (id := 0) ?_); ((with_reducible refine JL.loopW 0 699 (fun (k : Nat) tm => (3, .one false [.d (.v (.int .i64 ((k : Int))))]) :: tm) (fun (k : Nat) bo => bo) (fun (k : Nat) => k ≤ p.vs.length ∧ p.vs.length ≤ 6 ∧ p.tabs.length ≤ 12 ∧ p.now.length = p.vs.length ∧ p.tgt.length = p.vs.length ∧ ∀ i, i < k → (1 ≤ p.vs.getD i 0 ∧ p.vs.getD i 0 ≤ 6) ∧ (0 ≤ p.now.getD i 0 ∧ p.now.getD i 0 < p.vs.getD i 0) ∧ (0 ≤ p.tgt.getD i 0 ∧ p.tgt.getD i 0 < p.vs.getD i 0)) (fun (k : Nat) => p.vs.length - k) (0) ?_ (fun k hk => ?_) ?_); (focus (apply SubW [] rfl ?_ ?_ rfl ?_; (repeat' (first | exact kA | refine kB ?_ | refine kC ?_ ?_ | exact kD | fail)))))
 |((with_reducible refine round_next (i := k) (k + 1) ?_ ?_ ?_); (focus (apply SubW [] rfl ?_ ?_ rfl ?_; (repeat' (first | exact kA | refine kB ?_ | refine kC ?_ ?_ | exact kD | fail)))))
 |(with_reducible refine blk_at (id := 2) ?_); ((with_reducible refine JL.loopW 2 1299 (fun (j : Nat) tm => (5, .one false [.d (.v (.int .i64 ((j : Int))))]) :: tm) (fun (j : Nat) bo => bo) (fun (j : Nat) => j ≤ p.tabs.length ∧ p.vs.length ≤ 6 ∧ p.tabs.length ≤ 12 ∧ p.now.length = p.vs.length ∧ p.tgt.length = p.vs.length ∧ (∀ i, i < p.vs.length → (1 ≤ p.vs.getD i 0 ∧ p.vs.getD i 0 ≤ 6) ∧ (0 ≤ p.now.getD i 0 ∧ p.now.getD i 0 < p.vs.getD i 0) ∧ (0 ≤ p.tgt.getD i 0 ∧ p.tgt.getD i 0 < p.vs.getD i 0)) ∧ ∀ i, i < j → tabErr p.vs (p.tabs.getD i nilT) = 0) (fun (j : Nat) => p.tabs.length - j) (0) ?_ (fun j hj => have hvv := hv hj.2.1 hj.2.2.2.2.2.1; ?_) ?_); (focus (apply SubW [] rfl ?_ ?_ rfl ?_; (repeat' (first | exact kA | refine kB ?_ | refine kC ?_ ?_ | exact kD | fail)))))
 |((with_reducible refine round_next (i := j) (j + 1) ?_ ?_ ?_); (focus (apply SubW [] rfl ?_ ?_ rfl ?_; (repeat' (first | exact kA | refine kB ?_ | refine kC ?_ ?_ | exact kD | fail)))))
 |refine wA ?_
 |(refine wC ?_ ?_ <;> intro hc)
 |refine wB ?_ ?_
 |(with_reducible refine JL.block ?_)
 |(with_reducible refine F_at ?_); refine eW (vs := [(_, _)]) Tryz.results51 ?_; (focus (repeat' (first | exact oA | refine oB ?_ | refine oC ?_ ?_ | fail)))
 |exact oM
 |fail)
 all_goals first
  | (unfold vpErr; rw [if_pos (by omega)])
  | (unfold vpErr; rw [if_neg (by omega), if_pos (by omega)])
  | exact ⟨by omega, by omega, by omega, by omega, by omega, fun i hi => by omega⟩
  | (refine ⟨by omega, by omega, by omega, by omega, by omega, fun i hi => ?_⟩; by_cases e : i = k; (subst e; omega); exact hk.2.2.2.2.2 i (by omega))
  | (unfold vpErr; rw [if_neg (by omega), if_neg (by omega), if_pos (rng_no (k := k) (r0 (by omega) (by omega)) (by omega) (by omega))])
  | exact ⟨by omega, by omega, by omega, by omega, by omega, fun i hi => hk.2.2.2.2.2 i (by omega), fun i hi => by omega⟩
  | (refine ⟨by omega, by omega, by omega, by omega, by omega, hj.2.2.2.2.2.1, fun i hi => ?_⟩; by_cases e : i = j; (subst e; assumption); exact hj.2.2.2.2.2.2 i (by omega))
  | (have hr := (r0 (by omega) (by omega)).2 hj.2.2.2.2.2.1; unfold vpErr; rw [if_neg (by omega), if_neg (by omega), if_neg (by simp [hr])]; first | exact (tabs_at (by omega) hj.2.2.2.2.2.2 (by assumption)).symm | exact (tabs_all fun i hi => hj.2.2.2.2.2.2 i (by omega)).symm)
end Go.Proofs.YtfnljcallbalgaaGreatDoor

namespace Go.Proofs.YtfnljcallbalgaaGreatDoor
open Go Go.RowKit
set_option linter.unusedSimpArgs false
set_option linter.unusedVariables false
theorem firstErr_at {f : Nat → Int} : ∀ {n k j : Nat}, j ≤ k → k < j + n → (∀ i, j ≤ i → i < k → f i = 0) → ¬ f k = 0 → firstErr f j n = f k
 | 0, k, j, h1, h2, _, _ => by omega
 | n + 1, k, j, h1, h2, h0, he => by
  unfold firstErr
  by_cases e : j = k
  ·subst e; rw [if_pos he]
  ·rw [if_neg (by simpa using h0 j (Nat.le_refl _) (by omega))]
   exact firstErr_at (by omega) (by omega) (fun i h3 h4 => h0 i (by omega) h4) he
theorem firstErr_is {f : Nat → Int} {n k : Nat} (hk : k < n) (h0 : ∀ i, i < k → f i = 0) (he : ¬ f k = 0) : firstErr f 0 n = f k := firstErr_at (Nat.zero_le _) (by omega) (fun i _ h => h0 i h) he
theorem firstErr_no {f : Nat → Int} {n k : Nat} (hk : n ≤ k) (h0 : ∀ i, i < k → f i = 0) : firstErr f 0 n = 0 := firstErr_zero.2 fun i hi => by rw [Nat.zero_add]; exact h0 i (by omega)
theorem range_fm {α : Type} {f : Nat → List α} {k : Nat} : (List.range (k + 1)).flatMap f = (List.range k).flatMap f ++ f k := by
 rw [List.range_succ, List.flatMap_append, List.flatMap_singleton]
theorem range_any {f : Nat → Bool} {k : Nat} : (List.range (k + 1)).any f = ((List.range k).any f || f k) := by
 rw [List.range_succ, List.any_append]; simp
theorem range_no {f : Nat → Bool} {n k : Nat} (hk : k < n) (h : f k = false) : (List.range n).all f = false := by
 rw [List.all_eq_false]
 exact ⟨k, List.mem_range.2 hk, by simp [h]⟩
theorem int_getD_mem {l : List Int} {k : Nat} (h : k < l.length) : l.getD k 0 ∈ l := by
 rw [List.getD_eq_getElem?_getD, List.getElem?_eq_getElem h]; exact List.getElem_mem h
theorem vp_all {p : Prob} (h : vpErr p = 0) : p.vs.length ≤ 6 ∧ p.tabs.length ≤ 12 ∧ p.now.length = p.vs.length ∧ p.tgt.length = p.vs.length ∧ ∀ i, i < p.vs.length → (1 ≤ p.vs.getD i 0 ∧ p.vs.getD i 0 ≤ 6) ∧ (0 ≤ p.now.getD i 0 ∧ p.now.getD i 0 < p.vs.getD i 0) ∧ (0 ≤ p.tgt.getD i 0 ∧ p.tgt.getD i 0 < p.vs.getD i 0) := by
 obtain ⟨h1, h2, h3, h4⟩ := vp_parts.1 h
 refine ⟨h1.1, h1.2, h2.1, h2.2, fun i hi => ?_⟩
 have := (rngOK_get h2.1 h2.2).1 h3 i hi
 simp only [withinB, decide_eq_true_eq] at this
 have e : p.vs.getD i 0 = p.vs[i] := by rw [List.getD_eq_getElem?_getD, List.getElem?_eq_getElem hi]; rfl
 rw [e]
 exact ⟨this.1, this.2.1, this.2.2⟩
theorem vs_le {p : Prob} (h : vpErr p = 0) (k : Nat) : p.vs.getD k 0 ≤ 6 := by
 by_cases hk : k < p.vs.length
 ·exact ((vp_all h).2.2.2.2 k hk).1.2
 ·rw [List.getD_eq_getElem?_getD, List.getElem?_eq_none (by omega)]; decide
theorem sq_at {l : List (List Bool)} {n m : Int} {k : Nat} (h : sq l n m = true) (hk : (k : Int) < n) : k < l.length ∧ ((l.getD k []).length : Int) = m := by
 simp only [sq, Bool.and_eq_true, beq_iff_eq] at h
 have hk' : k < l.length := by omega
 refine ⟨hk', ?_⟩
 have h2 := h.2
 unfold sqRows at h2
 rw [List.all_eq_true] at h2
 have := h2 (l.getD k []) (by rw [List.getD_eq_getElem?_getD, List.getElem?_eq_getElem hk']; exact List.getElem_mem hk')
 simpa using this
structure TabIn (vs : List Int) (t : Tab) : Prop where
 frm : 0 ≤ t.frm ∧ t.frm < vs.length
 tto : 0 ≤ t.tto ∧ t.tto < vs.length
 okA : ∀ u : Nat, (u : Int) < vs.getD t.frm.toNat 0 → u < t.ok.length ∧ ((t.ok.getD u []).length : Int) = vs.getD t.tto.toNat 0
 rwA : t.kind = 4 → ∀ u : Nat, (u : Int) < vs.getD t.frm.toNat 0 → u < t.rw.length ∧ ((t.rw.getD u []).length : Int) = vs.getD t.frm.toNat 0
 knd : 1 ≤ t.kind ∧ t.kind ≤ 4
 diag : diagFrom t.rw 0 = true
theorem tabIn_of {vs : List Int} {t : Tab} (h : tabErr vs t = 0) : TabIn vs t := by
 unfold tabErr at h
 split at h
 ·cases h
 ·rename_i h1
  split at h
  ·cases h
  ·rename_i h2
   split at h
   ·cases h
   ·rename_i h3
    split at h
    ·cases h
    ·rename_i h4
     have h1 : 1 ≤ t.kind ∧ t.kind ≤ 4 := by
      have : kindOK t.kind t.aware = true := by simpa using h1
      simp only [kindOK, decide_eq_true_eq] at this
      exact ⟨this.1, this.2.1⟩
     simp only [withinB, Bool.not_eq_false, decide_eq_true_eq, not_or, not_and, Bool.not_eq_true', decide_eq_false_iff_not] at h2 h3 h4
     obtain ⟨k1, k2, k3⟩ := h3
     exact ⟨by simpa using h2.1, by simpa using h2.2, fun u hu => sq_at (by simpa using k1) hu, fun hk u hu => sq_at (by simpa using k2 hk) hu, ⟨by omega, by omega⟩, by simpa using h4⟩
theorem tab_at {p : Prob} (h : vpErr p = 0) {k : Nat} (hk : k < p.tabs.length) : TabIn p.vs (p.tabs.getD k nilT) := by
 have h4 := tabsErr_zero.1 (vp_parts.1 h).2.2.2
 exact tabIn_of (h4 _ (by rw [List.getD_eq_getElem?_getD, List.getElem?_eq_getElem hk]; exact List.getElem_mem hk))
theorem tabN {p : Prob} (h : vpErr p = 0) (k : Nat) : k < p.tabs.length → (0 ≤ (p.tabs.getD k nilT).frm ∧ (p.tabs.getD k nilT).frm < p.vs.length) ∧ (0 ≤ (p.tabs.getD k nilT).tto ∧ (p.tabs.getD k nilT).tto < p.vs.length) ∧ (1 ≤ p.vs.getD (p.tabs.getD k nilT).frm.toNat 0 ∧ p.vs.getD (p.tabs.getD k nilT).frm.toNat 0 ≤ 6) ∧ (1 ≤ p.vs.getD (p.tabs.getD k nilT).tto.toNat 0 ∧ p.vs.getD (p.tabs.getD k nilT).tto.toNat 0 ≤ 6) := fun hk => by
 have ht := tab_at h hk
 have h1 := ht.frm
 have h2 := ht.tto
 have hv := (vp_all h).2.2.2.2
 exact ⟨h1, h2, (hv _ (by omega)).1, (hv _ (by omega)).1⟩
theorem tabOK {p : Prob} (h : vpErr p = 0) (k u : Nat) : k < p.tabs.length → (u : Int) < p.vs.getD (p.tabs.getD k nilT).frm.toNat 0 → u < (p.tabs.getD k nilT).ok.length ∧ (((p.tabs.getD k nilT).ok.getD u []).length : Int) = p.vs.getD (p.tabs.getD k nilT).tto.toNat 0 := fun hk hu => (tab_at h hk).okA u hu
theorem tabRW {p : Prob} (h : vpErr p = 0) (k u : Nat) : k < p.tabs.length → (p.tabs.getD k nilT).kind = 4 → (u : Int) < p.vs.getD (p.tabs.getD k nilT).frm.toNat 0 → u < (p.tabs.getD k nilT).rw.length ∧ (((p.tabs.getD k nilT).rw.getD u []).length : Int) = p.vs.getD (p.tabs.getD k nilT).frm.toNat 0 := fun hk hq hu => (tab_at h hk).rwA hq u hu
theorem svc_nn {p : Prob} {m : MixD} (h : ∀ i, i < p.vs.length → svcI p.vs m.base m.next i = 0) (s : Int) : 0 ≤ s → s < p.vs.length → 0 ≤ m.base.getD s.toNat 0 ∧ m.base.getD s.toNat 0 < p.vs.getD s.toNat 0 ∧ -1 ≤ m.next.getD s.toNat 0 ∧ m.next.getD s.toNat 0 < p.vs.getD s.toNat 0 := fun h1 h2 => by
 have := h s.toNat (by omega)
 unfold svcI svcE at this
 split at this
 ·cases this
 ·split at this
  ·cases this
  ·omega
theorem mixErr_vp {p : Prob} {m : MixD} (h : ¬ vpErr p = 0) : mixErr p m = vpErr p := by unfold mixErr; rw [if_pos h]
theorem mixErr_ar {p : Prob} {m : MixD} (h : vpErr p = 0) (h1 : ¬ m.base.length = p.vs.length ∨ ¬ m.next.length = p.vs.length ∨ ¬ m.held.length = p.tabs.length) : mixErr p m = 6 := by unfold mixErr; rw [if_neg (by simpa using h), if_pos h1]
theorem mixErr_svc {p : Prob} {m : MixD} {k : Nat} {e : Int} (h : vpErr p = 0) (h1 : m.base.length = p.vs.length) (h2 : m.next.length = p.vs.length) (h3 : m.held.length = p.tabs.length) (hk : k < p.vs.length) (hp : ∀ i, i < k → svcI p.vs m.base m.next i = 0) (he : svcI p.vs m.base m.next k = e) (hne : ¬ e = 0) : mixErr p m = e := by
 unfold mixErr
 have h4 := firstErr_is hk hp (by rw [he]; exact hne)
 rw [if_neg (by simpa using h), if_neg (by omega), h4, he, if_pos hne]
theorem mixErr_held {p : Prob} {m : MixD} {k : Nat} (h : vpErr p = 0) (h1 : m.base.length = p.vs.length) (h2 : m.next.length = p.vs.length) (h3 : m.held.length = p.tabs.length) (hp : ∀ i, i < p.vs.length → svcI p.vs m.base m.next i = 0) (hk : k < p.tabs.length) (hq : ∀ i, i < k → heldB p m (p.tabs.getD i nilT) (m.held.getD i 0) = false) (he : heldB p m (p.tabs.getD k nilT) (m.held.getD k 0) = true) : mixErr p m = 1 := by
 unfold mixErr
 have h5 : heldI p m k = 1 := by unfold heldI; rw [if_pos he]
 have h4 : firstErr (heldI p m) 0 p.tabs.length = 1 := by
  rw [← h5]
  exact firstErr_is hk (fun i hi => by unfold heldI; rw [hq i hi]; rfl) (by rw [h5]; decide)
 rw [if_neg (by simpa using h), if_neg (by omega), firstErr_no (Nat.le_refl _) hp, if_neg (by decide), h4]
theorem mixErr_ok {p : Prob} {m : MixD} (h : vpErr p = 0) (h1 : m.base.length = p.vs.length) (h2 : m.next.length = p.vs.length) (h3 : m.held.length = p.tabs.length) (hp : ∀ i, i < p.vs.length → svcI p.vs m.base m.next i = 0) (hq : ∀ i, i < p.tabs.length → heldB p m (p.tabs.getD i nilT) (m.held.getD i 0) = false) : mixErr p m = 0 := by
 unfold mixErr
 rw [if_neg (by simpa using h), if_neg (by omega), firstErr_no (Nat.le_refl _) hp, if_neg (by decide)]
 exact firstErr_no (Nat.le_refl _) fun i hi => by unfold heldI; rw [hq i hi]; rfl
theorem MixIn.nn {p : Prob} {m : MixD} (h : MixIn p m) (s : Int) : 0 ≤ s → s < p.vs.length → s < m.base.length ∧ s < m.next.length ∧ 0 ≤ m.base.getD s.toNat 0 ∧ m.base.getD s.toNat 0 < p.vs.getD s.toNat 0 ∧ -1 ≤ m.next.getD s.toNat 0 ∧ m.next.getD s.toNat 0 < p.vs.getD s.toNat 0 ∧ p.vs.getD s.toNat 0 ≤ 6 := fun h1 h2 => by
 have h3 := h.rng s.toNat (by omega)
 have h4 := vs_le h.vp s.toNat
 have := h.lb; have := h.ln
 omega
theorem MixIn.at_ {p : Prob} {m : MixD} (h : MixIn p m) {s : Int} (hs : 0 ≤ s ∧ s < p.vs.length) : (0 ≤ s ∧ s < m.base.length ∧ s < m.next.length) ∧ (0 ≤ m.base.getD s.toNat 0 ∧ m.base.getD s.toNat 0 ≤ 6) ∧ m.next.getD s.toNat 0 ≤ 6 ∧ -1 ≤ m.next.getD s.toNat 0 ∧ m.base.getD s.toNat 0 < p.vs.getD s.toNat 0 ∧ m.next.getD s.toNat 0 < p.vs.getD s.toNat 0 := by
 have h1 := h.rng s.toNat (by omega)
 have h2 := vs_le h.vp s.toNat
 have := h.lb; have := h.ln
 exact ⟨by omega, by omega, by omega, by omega, by omega, by omega⟩
theorem one8_nn (v : Int) : 0 ≤ one8 v ∧ one8 v < 256 := by
 unfold one8 IntKind.wrap
 simp only [IntKind.bits, IntKind.signed]
 first | (simp; omega) | (constructor <;> omega) | skip
end Go.Proofs.YtfnljcallbalgaaGreatDoor

namespace Go.Proofs.YtfnljcallbalgaaGreatDoor
open Go Go.RowKit
set_option linter.unusedSimpArgs false
set_option linter.unusedVariables false
def cf3 (p : Prob) (m : MixD) (i u v : Nat) : List ConfD := (List.range v).flatMap fun (v : Nat) => if (hasV (runS m (p.tabs.getD i nilT).tto) v && (!(p.tabs.getD i nilT).aware && !okAt (p.tabs.getD i nilT) u v)) = true then [⟨i, u, v⟩] else []
def rd3 (p : Prob) (m : MixD) (i u v : Nat) : Bool := (List.range v).any fun (v : Nat) => hasV (runS m (p.tabs.getD i nilT).tto) v && okAt (p.tabs.getD i nilT) u v
def cf2 (p : Prob) (m : MixD) (i u : Nat) : List ConfD := (List.range u).flatMap fun (u : Nat) => if hasV (writers p m i (p.tabs.getD i nilT)) u = true then confU p m i (p.tabs.getD i nilT) u else []
def cf1 (p : Prob) (m : MixD) (i : Nat) : List ConfD := (List.range i).flatMap (confT p m)
theorem cf3_0 {p : Prob} {m : MixD} {i u : Nat} : cf3 p m i u 0 = [] := rfl
theorem cf2_0 {p : Prob} {m : MixD} {i : Nat} : cf2 p m i 0 = [] := rfl
theorem cf1_0 {p : Prob} {m : MixD} : cf1 p m 0 = [] := rfl
theorem rd3_0 {p : Prob} {m : MixD} {i u : Nat} : rd3 p m i u 0 = false := rfl
theorem cf3_yes {p : Prob} {m : MixD} {i u v : Nat} (h : hasV (runS m (p.tabs.getD i nilT).tto) v = true) (h2 : (p.tabs.getD i nilT).aware = false) (h3 : okAt (p.tabs.getD i nilT) u v = false) : cf3 p m i u (v + 1) = cf3 p m i u v ++ [⟨i, u, v⟩] := by
 unfold cf3; rw [range_fm, if_pos (by rw [h, h2, h3]; rfl)]
theorem cf3_no {p : Prob} {m : MixD} {i u v : Nat} (h : hasV (runS m (p.tabs.getD i nilT).tto) v = false ∨ (p.tabs.getD i nilT).aware = true ∨ okAt (p.tabs.getD i nilT) u v = true) : cf3 p m i u (v + 1) = cf3 p m i u v := by
 unfold cf3
 rw [range_fm, if_neg, List.append_nil]
 intro h'
 simp only [Bool.and_eq_true, Bool.not_eq_true'] at h'
 obtain ⟨a, b, c⟩ := h'
 rcases h with h | h | h
 ·rw [h] at a; cases a
 ·rw [h] at b; cases b
 ·rw [h] at c; cases c
theorem rd3_step {p : Prob} {m : MixD} {i u v : Nat} : rd3 p m i u (v + 1) = (rd3 p m i u v || (hasV (runS m (p.tabs.getD i nilT).tto) v && okAt (p.tabs.getD i nilT) u v)) := range_any
theorem cf2_no {p : Prob} {m : MixD} {i u : Nat} (h : hasV (writers p m i (p.tabs.getD i nilT)) u = false) : cf2 p m i (u + 1) = cf2 p m i u := by
 unfold cf2; rw [range_fm, if_neg (by rw [h]; decide), List.append_nil]
theorem confU_is {p : Prob} {m : MixD} {i u v : Nat} (hv : (v : Int) ≤ p.vs.getD (p.tabs.getD i nilT).tto.toNat 0) (hn : ¬ (v : Int) < p.vs.getD (p.tabs.getD i nilT).tto.toNat 0) : confU p m i (p.tabs.getD i nilT) u = cf3 p m i u v ++ (if ((p.tabs.getD i nilT).aware && !rd3 p m i u v) = true then [⟨i, u, -1⟩] else []) := by
 have e : (p.vs.getD (p.tabs.getD i nilT).tto.toNat 0).toNat = v := by omega
 unfold confU cf3 rd3
 rw [e]
theorem cf2_yes {p : Prob} {m : MixD} {i u v : Nat} (h : hasV (writers p m i (p.tabs.getD i nilT)) u = true) (hv : (v : Int) ≤ p.vs.getD (p.tabs.getD i nilT).tto.toNat 0) (hn : ¬ (v : Int) < p.vs.getD (p.tabs.getD i nilT).tto.toNat 0) : cf2 p m i (u + 1) = cf2 p m i u ++ (cf3 p m i u v ++ (if ((p.tabs.getD i nilT).aware && !rd3 p m i u v) = true then [⟨i, u, -1⟩] else [])) := by
 rw [← confU_is hv hn]
 unfold cf2; rw [range_fm, if_pos h]
theorem cf1_step {p : Prob} {m : MixD} {i u : Nat} (hu : (u : Int) ≤ p.vs.getD (p.tabs.getD i nilT).frm.toNat 0) (hn : ¬ (u : Int) < p.vs.getD (p.tabs.getD i nilT).frm.toNat 0) : cf1 p m (i + 1) = cf1 p m i ++ cf2 p m i u := by
 have e : (p.vs.getD (p.tabs.getD i nilT).frm.toNat 0).toNat = u := by omega
 unfold cf1 cf2
 rw [range_fm]
 congr 1
 unfold confT
 rw [e]
theorem cf1_all {p : Prob} {m : MixD} {i : Nat} (hi : i ≤ p.tabs.length) (hn : ¬ i < p.tabs.length) : cf1 p m i = foundP p m := by
 have : i = p.tabs.length := by omega
 subst this; rfl
theorem cf3_len {p : Prob} {m : MixD} {i u : Nat} : ∀ v, (cf3 p m i u v).length ≤ v
 | 0 => by simp [cf3]
 | v + 1 => by
  have := cf3_len (p := p) (m := m) (i := i) (u := u) v
  unfold cf3 at this ⊢
  rw [range_fm, List.length_append]
  split <;> simp only [List.length_cons, List.length_nil] <;> omega
theorem confU_len {p : Prob} {m : MixD} {i u : Nat} (h : p.vs.getD (p.tabs.getD i nilT).tto.toNat 0 ≤ 6) : (confU p m i (p.tabs.getD i nilT) u).length ≤ 7 := by
 have h3 := cf3_len (p := p) (m := m) (i := i) (u := u) (p.vs.getD (p.tabs.getD i nilT).tto.toNat 0).toNat
 unfold confU
 unfold cf3 at h3
 rw [List.length_append]
 split <;> simp only [List.length_cons, List.length_nil] <;> omega
theorem cf2_len {p : Prob} {m : MixD} {i : Nat} (h : p.vs.getD (p.tabs.getD i nilT).tto.toNat 0 ≤ 6) : ∀ u, (cf2 p m i u).length ≤ u * 7
 | 0 => by simp [cf2]
 | u + 1 => by
  have h1 := cf2_len (m := m) h u
  have h2 := confU_len (m := m) (u := u) h
  unfold cf2 at h1 ⊢
  rw [range_fm, List.length_append]
  split
  ·omega
  ·simp only [List.length_nil]; omega
theorem cf1_len {p : Prob} {m : MixD} (h : vpErr p = 0) : ∀ i, (cf1 p m i).length ≤ i * 42
 | 0 => by simp [cf1]
 | i + 1 => by
  have h1 := cf1_len (m := m) h i
  have h2 := cf2_len (m := m) (i := i) (vs_le h _) (p.vs.getD (p.tabs.getD i nilT).frm.toNat 0).toNat
  have h3 := vs_le h (p.tabs.getD i nilT).frm.toNat
  unfold cf1 at h1 ⊢
  rw [range_fm, List.length_append]
  have e : confT p m i = cf2 p m i (p.vs.getD (p.tabs.getD i nilT).frm.toNat 0).toNat := rfl
  rw [e]
  omega
theorem openN_le : ∀ l : List Int, openN l ≤ l.length
 | [] => Nat.le_refl _
 | x :: l => by
  have := openN_le l
  unfold openN
  simp only [List.length_cons]
  split <;> omega
theorem openN_snoc : ∀ (l : List Int) (x : Int), openN (l ++ [x]) = openN l + (if 0 ≤ x then 1 else 0)
 | [], x => by simp [openN]
 | y :: l, x => by
  simp only [List.cons_append, openN]
  rw [openN_snoc l x]
  omega
theorem openN_step {l : List Int} {i : Nat} (h : i < l.length) : openN (l.take (i + 1)) = openN (l.take i) + (if 0 ≤ l.getD i 0 then 1 else 0) := by
 rw [← openN_snoc, take_snoc h]
theorem abn_len : ∀ (l : List Int) (k : Nat), (abn l k).length = l.length
 | [], _ => rfl
 | x :: l, k => by
  unfold abn
  split <;> simp [abn_len l]
theorem abn_snoc : ∀ (l : List Int) (x : Int) (k : Nat), abn (l ++ [x]) k = abn l k ++ [if 0 ≤ x ∧ (k / 2 ^ openN l) % 2 = 1 then -1 else x]
 | [], x, k => by
  simp only [List.nil_append, abn, openN, Nat.pow_zero, Nat.div_one]
  split
  ·rename_i h
   simp [h]
  ·rename_i h
   simp [h]
 | y :: l, x, k => by
  simp only [List.cons_append, abn, openN]
  split
  ·rename_i h
   rw [abn_snoc l x (k / 2), Nat.div_div_eq_div_mul]
   have : 2 ^ (1 + openN l) = 2 * 2 ^ openN l := by rw [Nat.pow_add]
   rw [this]
   rfl
  ·rename_i h
   rw [abn_snoc l x k, Nat.zero_add]
   rfl
theorem abn_step {l : List Int} {i k : Nat} (h : i < l.length) : abn (l.take (i + 1)) k = abn (l.take i) k ++ [if 0 ≤ l.getD i 0 ∧ (k / 2 ^ openN (l.take i)) % 2 = 1 then -1 else l.getD i 0] := by
 rw [← abn_snoc, take_snoc h]
def abw (l : List Int) (k i : Nat) : List Int := abn (l.take i) k ++ l.drop i
theorem abw_len {l : List Int} {k i : Nat} (h : i ≤ l.length) : (abw l k i).length = l.length := by
 unfold abw
 rw [List.length_append, abn_len, List.length_take, List.length_drop]
 omega
theorem abw_all {l : List Int} {k i : Nat} (h : l.length ≤ i) : abw l k i = abn l k := by
 unfold abw
 rw [List.take_of_length_le h, List.drop_eq_nil_of_le h, List.append_nil]
theorem abw_keep {l : List Int} {k i : Nat} (h : i < l.length) (hn : ¬ (0 ≤ l.getD i 0 ∧ (k / 2 ^ openN (l.take i)) % 2 = 1)) : abw l k (i + 1) = abw l k i := by
 unfold abw
 rw [abn_step h, if_neg hn, List.append_assoc]
 congr 1
 rw [List.getD_eq_getElem?_getD, List.getElem?_eq_getElem h, List.drop_eq_getElem_cons h]
 rfl
theorem abw_set {l : List Int} {k i : Nat} (h : i < l.length) (hy : 0 ≤ l.getD i 0 ∧ (k / 2 ^ openN (l.take i)) % 2 = 1) : abw l k (i + 1) = (abw l k i).set i (-1) := by
 have hl : (abn (l.take i) k).length = i := by rw [abn_len, List.length_take]; omega
 unfold abw
 rw [abn_step h, if_pos hy, List.append_assoc, List.set_append_right _ _ (by omega), hl, Nat.sub_self, List.drop_eq_getElem_cons h]
 rfl
theorem pow_open {n : Nat} (h : n ≤ 12) : IntKind.i64.wrap (1 * 2 ^ ((n : Nat) : Int).toNat) = ((2 ^ n : Nat) : Int) ∧ 2 ^ n ≤ 4096 ∧ 0 < 2 ^ n := by
 have h2 : 2 ^ n ≤ 2 ^ 12 := Nat.pow_le_pow_right (by decide) h
 have h3 : 0 < 2 ^ n := Nat.pow_pos (by decide)
 refine ⟨?_, by simpa using h2, h3⟩
 rw [Int.toNat_natCast, Int.one_mul]
 have : ((2 : Int) ^ n) = ((2 ^ n : Nat) : Int) := by push_cast; rfl
 rw [this]
 refine wrap_i64 ⟨?_, ?_⟩ <;> omega
theorem shr_mod {k n : Nat} : ((k : Int) / 2 ^ ((n : Nat) : Int).toNat).tmod 2 = 1 ↔ (k / 2 ^ n) % 2 = 1 := by
 rw [Int.toNat_natCast]
 have h1 : ((k : Int) / 2 ^ n) = ((k / 2 ^ n : Nat) : Int) := by push_cast; rfl
 rw [h1]
 have h2 : (((k / 2 ^ n : Nat) : Int)).tmod 2 = (((k / 2 ^ n) % 2 : Nat) : Int) := by
  rw [Int.tmod_eq_emod_of_nonneg (Int.natCast_nonneg _)]; push_cast; rfl
 rw [h2]
 omega
theorem allP_len {m : MixD} : (allP m).length = 2 ^ openN m.next := by simp [allP]
theorem abM_in {p : Prob} {m : MixD} (h : MixIn p m) (k : Nat) : MixIn p (abM m k) := by
 refine ⟨h.vp, h.lb, by simp only [abM]; rw [abn_len]; exact h.ln, h.lh, fun i hi => ⟨(h.rng i hi).1, ?_⟩⟩
 have gen : ∀ (l : List Int) (k i : Nat), (abn l k).getD i 0 = l.getD i 0 ∨ (abn l k).getD i 0 = -1 := by
  intro l
  induction l with
  | nil => intro k i; left; rfl
  | cons x l ih =>
   intro k i
   unfold abn
   by_cases hx : 0 ≤ x
   ·rw [if_pos hx]
    cases i with
    | zero =>
     by_cases hk : k % 2 = 1
     ·right; simp [hk]
     ·left; simp [hk]
    | succ i => simpa using ih (k / 2) i
   ·rw [if_neg hx]
    cases i with
    | zero => left; rfl
    | succ i => simpa using ih k i
 have h2 := (h.rng i hi).2
 have h3 := vp_all h.vp
 have h4 := (h3.2.2.2.2 i hi).1
 rcases gen m.next k i with e | e
 ·simp only [abM]; rw [e]; exact h2
 ·simp only [abM]; rw [e]; omega
theorem allP_get {m : MixD} {k : Nat} (hk : k < (allP m).length) : (allP m).getD k nilM = abM m k := by
 have hk' : k < 2 ^ openN m.next := by rwa [allP_len] at hk
 simp [allP, List.getD_eq_getElem?_getD, hk']
theorem blameL_at {p : Prob} : ∀ {l : List MixD} {k : Nat}, k < l.length → (∀ j, j < k → foundP p (l.getD j nilM) = []) → ¬ foundP p (l.getD k nilM) = [] → blameL p l = (l.getD k nilM, (foundP p (l.getD k nilM)).getD 0 nilC, 0)
 | x :: r, 0, _, _, hn => by
  unfold blameL
  have hn : ¬ foundP p x = [] := hn
  cases hf : foundP p x with
  | nil => exact absurd hf hn
  | cons c cs => simp [hf]
 | x :: r, k + 1, hk, h0, hn => by
  have h1 : foundP p x = [] := h0 0 (by omega)
  unfold blameL
  rw [h1]
  exact blameL_at (by simpa using hk) (fun j hj => h0 (j + 1) (by omega)) hn
theorem blameL_no {p : Prob} {l : List MixD} {k : Nat} (hk : l.length ≤ k) (h0 : ∀ j, j < k → foundP p (l.getD j nilM) = []) : blameL p l = (nilM, ⟨0, 0, 0⟩, 15) := by
 refine blameL_safe ?_
 rw [List.all_eq_true]
 intro x hx
 obtain ⟨i, hi, rfl⟩ := List.getElem_of_mem hx
 have := h0 i (by omega)
 rw [List.getD_eq_getElem?_getD, List.getElem?_eq_getElem hi] at this
 simp only [safeP]
 rw [show foundP p l[i] = [] from this]
 rfl
end Go.Proofs.YtfnljcallbalgaaGreatDoor

namespace Go.Proofs.YtfnljcallbalgaaGreatDoor
open Go Go.RowKit
theorem rgL (lend : FuncId → Bool) {N id nx nx' : Nat} {l : List Oper} {dr : Bool} {cs : List Code} {R : AX → St → Prop} {tm : List (Nat × AV)} {bo : BO} [RegN id nx'] (hn : Nat.ble nx nx' = true) (h : W Tryz.prog lend N ⟨l⟩ dr cs R 0 l tm bo nx' []) : JL Tryz.prog N (.region id ⟨l⟩ dr :: cs) ⟨tm, clean bo, nx⟩ R := JL.regionW nx' mo hn h
end Go.Proofs.YtfnljcallbalgaaGreatDoor

namespace Go.Proofs.YtfnljcallbalgaaGreatDoor
open Go Go.RowKit
set_option linter.unusedSimpArgs false
set_option linter.unusedVariables false
section
variable {P : Program} {lend : FuncId → Bool} {N : Nat} {ops : Array Oper} {dr : Bool} {cs : List Code} {R : AX → St → Prop} {i : Nat} {os : List Oper} {tm : List (Nat × AV)} {bo : BO} {nx : Nat} {ns : List Note} {d : Nat} {pos : String} {ty : TypeId} {af : Array Edge}
theorem W.mkfn {g : FuncId} {cap : Array Operand} {cps : List Cap} (hd : Nat.blt d N = true) (he : effMakeFunc (.func g) [] cap.toList (onlyT ⟨some d, .makeFunc (.func g) #[] cap, ty, pos, af, none⟩ (lk tm)) = some { av := .one false [.fn g cps] })
    (h : W P lend N ops dr cs R (i + 1) os ((d, .one false [.fn g cps]) :: tm) bo nx (ns ++ [⟨opKeys (lk tm) (lko bo) ⟨some d, .makeFunc (.func g) #[] cap, ty, pos, af, none⟩, []⟩])) : W P lend N ops dr cs R i (⟨some d, .makeFunc (.func g) #[] cap, ty, pos, af, none⟩ :: os) tm bo nx ns :=
 W.eff (call := fun _ _ _ => none) (fun _ _ _ _ h => by cases h) rfl (fun k hk => by cases hk; exact Nat.le_of_ble_eq_true hd) he (updT_cons _ _ _) (updB_0 bo) h
theorem W.callC {f : Operand} {g : FuncId} {args : Array Operand} {tyq : Array TypeId} {xs : List (Bool × List C)} {caps cz : List C} {z : List Key} {c0 : C} {b : Bool} {cr : List C} (hd : Nat.blt d N = true) (hbod : BoI P g) (hcal : calleeOf (onlyT ⟨some d, .call ⟨.value f, args, tyq⟩, ty, pos, af, none⟩ (lk tm)) f = some (g, c0 :: caps))
    (ha : argsOf (onlyT ⟨some d, .call ⟨.value f, args, tyq⟩, ty, pos, af, none⟩ (lk tm)) (onlyB (opKeys (lk tm) (lko bo) ⟨some d, .call ⟨.value f, args, tyq⟩, ty, pos, af, none⟩) (lko bo)) true args.toList = some (xs, []))
    (hz : argVals (onlyB (opKeys (lk tm) (lko bo) ⟨some d, .call ⟨.value f, args, tyq⟩, ty, pos, af, none⟩) (lko bo)) true (c0 :: caps) = some (cz, z))
    (hK : FnSound P g ((xs ++ cz.map fun c => (false, [c])).map fun y => Arg.val y.1 y.2) [] { vals := [(b, cr)] })
    (hr : resOk { vals := [(b, cr)] } true = true) (hcl : ARes.closed { vals := [(b, cr)] } = true)
    (h : W P lend N ops dr cs R (i + 1) os ((d, .one b cr) :: tm) bo nx (ns ++ [⟨opKeys (lk tm) (lko bo) ⟨some d, .call ⟨.value f, args, tyq⟩, ty, pos, af, none⟩, []⟩])) : W P lend N ops dr cs R i (⟨some d, .call ⟨.value f, args, tyq⟩, ty, pos, af, none⟩ :: os) tm bo nx ns := by
 obtain ⟨hbod⟩ := hbod
 refine W.eff (call := oneCall g ((xs ++ cz.map fun c => (false, [c])).map fun y => Arg.val y.1 y.2) { vals := [(b, cr)] }) (oneCall_ok hK) rfl (fun k hk => by cases hk; exact Nat.le_of_ble_eq_true hd) ?_ (updT_cons _ _ _) (updB_0 bo) h
 simp only [effOf]
 unfold effCall effCall0
 simp only [hcal, List.isEmpty_cons, Bool.not_false, Bool.or_true, ha, hz]
 rw [if_pos hbod]
 unfold effVal
 have h5 : oneCall g ((xs ++ cz.map fun c => (false, [c])).map fun y => Arg.val y.1 y.2) { vals := [(b, cr)] } g ((xs ++ cz.map fun c => (false, [c])).map fun x => Arg.val x.1 x.2) [] = some { vals := [(b, cr)] } := by
  unfold oneCall; simp
 have hk : renK (keyAt i nx) [] 0 = fun q => q := by funext q; rfl
 simp only [resOk, Bool.and_eq_true, Bool.or_eq_true, Bool.not_eq_true', List.isEmpty_iff] at hr
 have hsc : ARes.scalars { vals := [(b, cr)] } = true := by
  have := hr.2.resolve_left (by decide)
  simp only [ARes.scalars, List.isEmpty_nil, Bool.true_and]; exact this
 simp only [h5]
 rw [if_pos ⟨rfl, by simp, .inr hsc, hcl, rfl, rfl⟩]
 simp only [hk, resAV_vals, takeBx, List.nil_append, shut, List.filter_nil, List.filterMap_nil]
 rfl
end
end Go.Proofs.YtfnljcallbalgaaGreatDoor

