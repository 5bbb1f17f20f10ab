/- Rules of runs and contracts of functions, for the claims of one seat. -/
import Derived.Test.YtfnljcallbalgaaGreatDoorUA12
import Derived.Test.YtfnljcallbalgaaGreatDoorUA13
import Derived.Test.YtfnljcallbalgaaGreatDoorUA14
namespace Go.Proofs.YtfnljcallbalgaaGreatDoor
open Go Go.RowKit
set_option maxRecDepth 100000
set_option maxHeartbeats 8000000
set_option linter.unusedSimpArgs false
set_option linter.unusedVariables false
theorem pwithin_fn (i n : Int) : FnSound Tryz.prog 114 [.val false [.d (.v (.int .i64 i))], .val false [.d (.v (.int .i64 n))]] [] { vals := [(false, [.d (.v (.bool (withinB i n)))])] } := by
 refine startW (tm := [(0, _), (1, _)]) Tryz.func114 rfl Tryz.ntmps114 rfl rfl rfl rfl ?_
 repeat' (first
 |refine wA ?_
 |(refine wC ?_ ?_ <;> intro hc)
 |refine wB ?_ ?_
 |(with_reducible refine JL.block ?_)
 |(with_reducible refine F_at ?_); refine eW (vs := [(_, _)]) Tryz.results114 ?_; (focus (repeat' (first | exact oA | refine oB ?_ | refine oC ?_ ?_ | fail)))
 |exact oM
 |fail)
 all_goals (unfold withinB; first | (exact (decide_eq_false (by omega)).symm) | (simp; omega) | grind | trace_state)
theorem pkind_fn (k : Int) (a : Bool) : FnSound Tryz.prog 178 [.val false [.d (.v (.int .i64 k))], .val false [.d (.v (.bool a))]] [] { vals := [(false, [.d (.v (.bool (kindOK k a)))])] } := by
 refine startW (tm := [(0, _), (1, _)]) Tryz.func178 rfl Tryz.ntmps178 rfl rfl rfl rfl ?_
 repeat' (first
 |refine wA ?_
 |(refine wC ?_ ?_ <;> intro hc)
 |refine wB ?_ ?_
 |(with_reducible refine JL.block ?_)
 |(with_reducible refine F_at ?_); refine eW (vs := [(_, _)]) Tryz.results178 ?_; (focus (repeat' (first | exact oA | refine oB ?_ | refine oC ?_ ?_ | fail)))
 |exact oM
 |fail)
 all_goals (unfold kindOK; cases a <;> first | (exact (decide_eq_false (by simp; omega)).symm) | (exact (decide_eq_true (by simp; omega)).symm) | grind | trace_state)
theorem mat1_fn (r : List Bool) (n : Int) : FnSound Tryz.prog 242 [.val false [.d (.sl 1 (dBools r))], .val false [.rptr [.v (.int .i64 n)] 0]] [] { vals := [(false, [.d (.v (.bool (decide (¬ (r.length : Int) = n))))])] } := by
 refine startW (tm := [(0, _), (1, _)]) Tryz.func242 rfl Tryz.ntmps242 rfl rfl rfl rfl ?_
 repeat' (first
 |refine wA ?_
 |(refine wC ?_ ?_ <;> intro hc)
 |refine wB ?_ ?_
 |(with_reducible refine JL.block ?_)
 |(with_reducible refine F_at ?_); refine eW (vs := [(_, _)]) Tryz.results242 ?_; (focus (repeat' (first | exact oA | refine oB ?_ | refine oC ?_ ?_ | fail)))
 |exact oM
 |fail)
 all_goals first | rfl | trace_state
theorem bo_m1 : BoI Tryz.prog 242 := ⟨by kernel_rfl⟩
def badFrom (n : Int) : List (List Bool) → Nat → Int
 | [], _ => -1
 | r :: t, i => if ¬ (r.length : Int) = n then (i : Int) else badFrom n t (i + 1)
theorem bad_any {n : Int} : ∀ {l : List (List Bool)} {i : Nat}, decide (0 ≤ badFrom n l i) = !sqRows l n
 | [], _ => rfl
 | r :: t, i => by
  unfold badFrom sqRows
  rw [List.all_cons]
  by_cases h : (r.length : Int) = n
  ·rw [if_neg (fun a => a h), bad_any (l := t)]
   simp [h, sqRows]
  ·rw [if_pos h]
   simp [h]
theorem dropM_cons {l : List (List Bool)} {k : Nat} (h : k < l.length) : l.drop k = l.getD k [] :: l.drop (k + 1) := by
 rw [List.drop_eq_getElem_cons h, List.getD_eq_getElem?_getD, List.getElem?_eq_getElem h]; rfl
theorem idxM_fn (l : List (List Bool)) (n : Int) (hl : l.length ≤ 1000000) : FnSound Tryz.prog 301 [.val false [.d (.sl 1 (dMat l))], .val false [.fn 242 [.rptr [.v (.int .i64 n)] 0]]] [] { vals := [(false, [.d (.v (.int .i64 (badFrom n l 0)))])] } := by
 refine startW (tm := [(0, _), (1, _)]) Tryz.func301 rfl Tryz.ntmps301 rfl rfl rfl rfl ?_
 repeat' (first
 |(with_reducible refine W_at ?_); (first
 |(refine W.callC rfl bo_m1 rfl rfl rfl (mat1_fn (l.getD k []) n) rfl rfl ?_))
 |(with_reducible refine blk_at (id := 0) ?_); ((with_reducible refine JL.loopW 0 299 (fun (k : Nat) tm => (8, .one false [.d (.v (.int .i64 ((k : Int))))]) :: tm) (fun (k : Nat) bo => bo) (fun (k : Nat) => k ≤ l.length ∧ badFrom n (l.drop k) k = badFrom n l 0) (fun (k : Nat) => l.length - k) (0) ?_ (fun k hk => ?_) ?_); (focus (apply SubW [] rfl ?_ ?_ rfl ?_; (repeat' (first | exact kA | refine kB ?_ | refine kC ?_ ?_ | exact kD | fail)))))
 |((with_reducible refine round_next (i := k) (k + 1) ?_ ?_ ?_); (focus (apply SubW [] rfl ?_ ?_ rfl ?_; (repeat' (first | exact kA | refine kB ?_ | refine kC ?_ ?_ | exact kD | fail)))))
 |refine wA ?_
 |(refine wC ?_ ?_ <;> intro hc)
 |refine wB ?_ ?_
 |(with_reducible refine JL.block ?_)
 |(with_reducible refine F_at ?_); refine eW (vs := [(_, _)]) Tryz.results301 ?_; (focus (repeat' (first | exact oA | refine oB ?_ | refine oC ?_ ?_ | fail)))
 |exact oM
 |fail)
 all_goals first
  | exact ⟨Nat.zero_le _, rfl⟩
  | (rw [← hk.2, dropM_cons (by omega)]; unfold badFrom; rw [if_pos hc]; done)
  | (refine ⟨by omega, ?_⟩; rw [← hk.2, dropM_cons (k := k) (by omega)]; conv => rhs; unfold badFrom
     rw [if_neg (fun a => a hc)]; done)
  | (rw [← hk.2, List.drop_eq_nil_of_le (by omega)]; rfl)
  | trace_state
theorem conM_fn (l : List (List Bool)) (n : Int) (hl : l.length ≤ 1000000) : FnSound Tryz.prog 241 [.val false [.d (.sl 1 (dMat l))], .val false [.fn 242 [.rptr [.v (.int .i64 n)] 0]]] [] { vals := [(false, [.d (.v (.bool (!sqRows l n)))])] } := by
 rw [← bad_any (i := 0)]
 refine startW (tm := [(0, _), (1, _)]) Tryz.func241 rfl Tryz.ntmps241 rfl rfl rfl rfl ?_
 repeat' (first
 |(with_reducible refine K_ca 301 ?_); refine zC (idxM_fn l n hl) ?_
 |refine wA ?_
 |(refine wC ?_ ?_ <;> intro hc)
 |refine wB ?_ ?_
 |(with_reducible refine JL.block ?_)
 |(with_reducible refine F_at ?_); refine eW (vs := [(_, _)]) Tryz.results241 ?_; (focus (repeat' (first | exact oA | refine oB ?_ | refine oC ?_ ?_ | fail)))
 |exact oM
 |fail)
 all_goals first | rfl | trace_state
theorem pmat_fn (l : List (List Bool)) (n m : Int) (hn : n ≤ 6) : FnSound Tryz.prog 179 [.val false [.d (.sl 1 (dMat l))], .val false [.d (.v (.int .i64 n))], .val false [.d (.v (.int .i64 m))]] [] { vals := [(false, [.d (.v (.bool (sq l n m)))])] } := by
 refine startW (tm := [(0, _), (1, _), (2, _)]) Tryz.func179 rfl Tryz.ntmps179 rfl rfl rfl rfl ?_
 repeat' (first
 |(with_reducible refine rgL (fun g => g == 241) ?_ ?_); exact rfl
 |(with_reducible refine K_ca 241 ?_); refine zC (conM_fn l m (by omega)) ?_
 |(with_reducible refine W_at ?_); (first
 |(refine W.mkfn rfl rfl ?_))
 |refine wA ?_
 |(refine wC ?_ ?_ <;> intro hc)
 |refine wB ?_ ?_
 |(with_reducible refine JL.block ?_)
 |(with_reducible refine F_at ?_); refine eW (vs := [(_, _)]) Tryz.results179 ?_; (focus (repeat' (first | exact oA | refine oB ?_ | refine oC ?_ ?_ | fail)))
 |exact oM
 |fail)
 all_goals (unfold sq; first | (rw [beq_iff_eq.2 hc]; simp; done) | (rw [beq_eq_false_iff_ne.2 hc]; rfl) | (simp_all; done) | trace_state)
theorem ptab_fn (p : Prob) (t : Tab) (hv : ∀ k, p.vs.getD k 0 ≤ 6) (hl : p.vs.length ≤ 6) : FnSound Tryz.prog 115 [.val true (probC p), .val true (tabC t)] [] { vals := [(false, [.d (.v (.int .i64 (tabErr p.vs t)))])] } := by
 have v1 := hv t.frm.toNat
 have v2 := hv t.tto.toNat
 have d0 := diag_nil (l := t.rw)
 have d1 : ∀ k : Nat, k < t.rw.length → (t.rw.getD k []).getD k false = false → diagFrom t.rw 0 = false := fun k h1 h2 => diag_at h1 (by rw [Nat.zero_add]; exact h2)
 have d2 : ∀ k : Nat, (∀ j, j < k → (t.rw.getD j []).getD j false = true) → t.rw.length ≤ k → diagFrom t.rw 0 = true := fun k h hk => diag_all fun j hj => by rw [Nat.zero_add]; exact h j (by omega)
 have d3 : ∀ k : Nat, sq t.rw (p.vs.getD t.frm.toNat 0) (p.vs.getD t.frm.toNat 0) = true → k < t.rw.length → k < (t.rw.getD k []).length := fun k h hk => by have := sq_row h hk; omega
 have d4 : sq t.rw (p.vs.getD t.frm.toNat 0) (p.vs.getD t.frm.toNat 0) = true → t.rw.length ≤ 6 := fun h => by
  simp only [sq, Bool.and_eq_true, beq_iff_eq] at h; omega
 have w1 : withinB t.frm p.vs.length = true → 0 ≤ t.frm ∧ t.frm < p.vs.length := fun h => of_decide_eq_true h
 have w2 : withinB t.tto p.vs.length = true → 0 ≤ t.tto ∧ t.tto < p.vs.length := fun h => of_decide_eq_true h
 refine startW (tm := [(0, _), (1, _)]) Tryz.func115 rfl Tryz.ntmps115 rfl rfl rfl rfl ?_
 repeat' (first
 |(with_reducible refine K_ca 178 ?_); refine zC (pkind_fn t.kind t.aware) ?_
 |(with_reducible refine K_ca 114 ?_); (first
 |refine zC (pwithin_fn t.frm p.vs.length) ?_
 |refine zC (pwithin_fn t.tto p.vs.length) ?_)
 |(with_reducible refine K_ca 179 ?_); (first
 |refine zC (pmat_fn t.ok (p.vs.getD t.frm.toNat 0) (p.vs.getD t.tto.toNat 0) v1) ?_
 |refine zC (pmat_fn t.rw (p.vs.getD t.frm.toNat 0) (p.vs.getD t.frm.toNat 0) v1) ?_)
 |(with_reducible refine blk_at (id := 0) ?_); ((with_reducible refine JL.loopW 0 1099 (fun (k : Nat) tm => (74, .one false [.d (.v (.int .i64 ((k : Int))))]) :: tm) (fun (k : Nat) bo => bo) (fun (k : Nat) => k ≤ t.rw.length ∧ t.rw.length ≤ 6 ∧ ∀ j, j < k → (t.rw.getD j []).getD j false = true) (fun (k : Nat) => t.rw.length - k) (0) ?_ (fun k hk => ?_) ?_); (focus (apply SubW [] rfl ?_ ?_ rfl ?_; (repeat' (first | exact kA | refine kB ?_ | refine kC ?_ ?_ | exact kD | fail)))))
 |((with_reducible refine round_next (i := k) (k + 1) ?_ ?_ ?_); (focus (apply SubW [] rfl ?_ ?_ rfl ?_; (repeat' (first | exact kA | refine kB ?_ | refine kC ?_ ?_ | exact kD | fail)))))
 |refine wA ?_
 |(refine wC ?_ ?_ <;> intro hc)
 |refine wB ?_ ?_
 |(with_reducible refine JL.block ?_)
 |(with_reducible refine F_at ?_); refine eW (vs := [(_, _)]) Tryz.results115 ?_; (focus (repeat' (first | exact oA | refine oB ?_ | refine oC ?_ ?_ | fail)))
 |exact oM
 |fail)
 all_goals first
  | (unfold tabErr kindOK withinB; grind)
  | exact ⟨Nat.zero_le _, d4 (by simpa using hc), fun j hj => absurd hj (Nat.not_lt_zero j)⟩
  | grind
  | trace_state
theorem vp_fn (p : Prob) : FnSound Tryz.prog 63 [.val true (probC p)] [] { vals := [(false, [.d (.v (.int .i64 (vpErr p)))])] } := by
 have r0 := @rng_of p
 have hv : p.vs.length ≤ 6 → (∀ i, i < p.vs.length → (1 ≤ p.vs.getD i 0 ∧ p.vs.getD i 0 ≤ 6) ∧ (0 ≤ p.now.getD i 0 ∧ p.now.getD i 0 < p.vs.getD i 0) ∧ (0 ≤ p.tgt.getD i 0 ∧ p.tgt.getD i 0 < p.vs.getD i 0)) → ∀ k, p.vs.getD k 0 ≤ 6 := fun _ h k => by
  by_cases hk : k < p.vs.length
  ·exact (h k hk).1.2
  ·rw [List.getD_eq_getElem?_getD, List.getElem?_eq_none (by omega)]; decide
 refine startW (tm := [(0, _)]) Tryz.func63 rfl Tryz.ntmps63 rfl rfl rfl rfl ?_
 repeat' (first
 |(with_reducible refine K_ca 114 ?_); (first
 |refine zC (pwithin_fn (p.now.getD k 0) (p.vs.getD k 0)) ?_
 |refine zC (pwithin_fn (p.tgt.getD k 0) (p.vs.getD k 0)) ?_)
 |(with_reducible refine K_ca 115 ?_); refine zC (ptab_fn p (p.tabs.getD j nilT) hvv (by omega)) ?_
 |(with_reducible refine blk_at (id := 0) ?_); ((with_reducible refine JL.loopW 0 799 (fun (k : Nat) tm => (35, .one false [.d (.v (.int .i64 ((k : Int))))]) :: tm) (fun (k : Nat) bo => bo) (fun (k : Nat) => k ≤ p.vs.length ∧ p.vs.length ≤ 6 ∧ p.tabs.length ≤ 12 ∧ p.now.length = p.vs.length ∧ p.tgt.length = p.vs.length ∧ ∀ i, i < k → (1 ≤ p.vs.getD i 0 ∧ p.vs.getD i 0 ≤ 6) ∧ (0 ≤ p.now.getD i 0 ∧ p.now.getD i 0 < p.vs.getD i 0) ∧ (0 ≤ p.tgt.getD i 0 ∧ p.tgt.getD i 0 < p.vs.getD i 0)) (fun (k : Nat) => p.vs.length - k) (0) ?_ (fun k hk => ?_) ?_); (focus (apply SubW [] rfl ?_ ?_ rfl ?_; (repeat' (first | exact kA | refine kB ?_ | refine kC ?_ ?_ | exact kD | fail)))))
 |((with_reducible refine round_next (i := k) (k + 1) ?_ ?_ ?_); (focus (apply SubW [] rfl ?_ ?_ rfl ?_; (repeat' (first | exact kA | refine kB ?_ | refine kC ?_ ?_ | exact kD | fail)))))
 |(with_reducible refine blk_at (id := 2) ?_); ((with_reducible refine JL.loopW 2 1399 (fun (j : Nat) tm => (70, .one false [.d (.v (.int .i64 ((j : Int))))]) :: tm) (fun (j : Nat) bo => bo) (fun (j : Nat) => j ≤ p.tabs.length ∧ p.vs.length ≤ 6 ∧ p.tabs.length ≤ 12 ∧ p.now.length = p.vs.length ∧ p.tgt.length = p.vs.length ∧ (∀ i, i < p.vs.length → (1 ≤ p.vs.getD i 0 ∧ p.vs.getD i 0 ≤ 6) ∧ (0 ≤ p.now.getD i 0 ∧ p.now.getD i 0 < p.vs.getD i 0) ∧ (0 ≤ p.tgt.getD i 0 ∧ p.tgt.getD i 0 < p.vs.getD i 0)) ∧ ∀ i, i < j → tabErr p.vs (p.tabs.getD i nilT) = 0) (fun (j : Nat) => p.tabs.length - j) (0) ?_ (fun j hj => have hvv := hv hj.2.1 hj.2.2.2.2.2.1; ?_) ?_); (focus (apply SubW [] rfl ?_ ?_ rfl ?_; (repeat' (first | exact kA | refine kB ?_ | refine kC ?_ ?_ | exact kD | fail)))))
 |((with_reducible refine round_next (i := j) (j + 1) ?_ ?_ ?_); (focus (apply SubW [] rfl ?_ ?_ rfl ?_; (repeat' (first | exact kA | refine kB ?_ | refine kC ?_ ?_ | exact kD | fail)))))
 |refine wA ?_
 |(refine wC ?_ ?_ <;> intro hc)
 |refine wB ?_ ?_
 |(with_reducible refine JL.block ?_)
 |(with_reducible refine F_at ?_); refine eW (vs := [(_, _)]) Tryz.results63 ?_; (focus (repeat' (first | exact oA | refine oB ?_ | refine oC ?_ ?_ | fail)))
 |exact oM
 |fail)
 all_goals first
  | (unfold vpErr; rw [if_pos (by omega)])
  | (unfold vpErr; rw [if_neg (by omega), if_pos (by omega)])
  | exact ⟨by omega, by omega, by omega, by omega, by omega, fun i hi => by omega⟩
  | (refine ⟨by omega, by omega, by omega, by omega, by omega, fun i hi => ?_⟩; by_cases e : i = k; (subst e; omega); exact hk.2.2.2.2.2 i (by omega))
  | (unfold vpErr; rw [if_neg (by omega), if_neg (by omega), if_pos (rng_no (k := k) (r0 (by omega) (by omega)) (by omega) (by omega))])
  | exact ⟨by omega, by omega, by omega, by omega, by omega, fun i hi => hk.2.2.2.2.2 i (by omega), fun i hi => absurd hi (Nat.not_lt_zero i)⟩
  | (refine ⟨by omega, by omega, by omega, by omega, by omega, hj.2.2.2.2.2.1, fun i hi => ?_⟩; by_cases e : i = j; (subst e; assumption); exact hj.2.2.2.2.2.2 i (by omega))
  | (have hr := (r0 (by omega) (by omega)).2 hj.2.2.2.2.2.1; unfold vpErr; rw [if_neg (by omega), if_neg (by omega), if_neg (by simp [hr])]; first | exact (tabs_at (by omega) hj.2.2.2.2.2.2 (by first | assumption | exact hc | omega)).symm | exact (tabs_all fun i hi => hj.2.2.2.2.2.2 i (by omega)).symm)
  | trace_state
end Go.Proofs.YtfnljcallbalgaaGreatDoor

namespace Go.Proofs.YtfnljcallbalgaaGreatDoor
open Go Go.RowKit
set_option maxRecDepth 100000
set_option maxHeartbeats 8000000
set_option linter.unusedSimpArgs false
set_option linter.unusedVariables false
theorem pstored_fn (t : Tab) : FnSound Tryz.prog 145 [.val true (tabC t)] [] { vals := [(false, [.d (.v (.bool (storedB t.kind)))])] } := by
 refine startW (tm := [(0, _)]) Tryz.func145 rfl Tryz.ntmps145 rfl rfl rfl rfl ?_
 repeat' (first
 |refine wA ?_
 |(refine wC ?_ ?_ <;> intro hc)
 |refine wB ?_ ?_
 |(with_reducible refine JL.block ?_)
 |(with_reducible refine F_at ?_); refine eW (vs := [(_, _)]) Tryz.results145 ?_; (focus (repeat' (first | exact oA | refine oB ?_ | refine oC ?_ ?_ | fail)))
 |exact oM
 |fail)
 all_goals simp [storedB, *]
theorem prun_fn (m : MixD) (s : Int) (hs : 0 ≤ s ∧ s < m.base.length ∧ s < m.next.length) (hb : 0 ≤ m.base.getD s.toNat 0 ∧ m.base.getD s.toNat 0 ≤ 6) (hn : m.next.getD s.toNat 0 ≤ 6) : FnSound Tryz.prog 311 [.val true (mixC m), .val false [.d (.v (.int .i64 s))]] [] { vals := [(false, [.d (.v (.int .u8 (runS m s)))])] } := by
 refine startW (tm := [(0, _), (1, _)]) Tryz.func311 rfl Tryz.ntmps311 rfl rfl rfl rfl ?_
 repeat' (first
 |refine wA ?_
 |(refine wC ?_ ?_ <;> intro hc)
 |refine wB ?_ ?_
 |(with_reducible refine JL.block ?_)
 |(with_reducible refine F_at ?_); refine eW (vs := [(_, _)]) Tryz.results311 ?_; (focus (repeat' (first | exact oA | refine oB ?_ | refine oC ?_ ?_ | fail)))
 |exact oM
 |fail)
 ·unfold runS runV; rw [if_pos hc]; rfl
 ·unfold runS runV; rw [if_neg hc]; rfl
theorem andNot_l (h : Int) : bits BinOp.andNot IntKind.u8 0 h = 0 := by
 show IntKind.u8.wrap (((BitVec.ofInt 8 0 &&& ~~~ BitVec.ofInt 8 h).toNat : Nat) : Int) = 0
 have : (BitVec.ofInt 8 0 : BitVec 8) = 0#8 := by decide
 rw [this, BitVec.zero_and]; rfl
theorem u8_of {h : Int} (hh : 0 ≤ h ∧ h < 256) : IntKind.u8.wrap (((BitVec.ofInt 8 h).toNat : Nat) : Int) = h := by
 have h1 : ((BitVec.ofInt 8 h).toNat : Int) = h := by
  rw [BitVec.toNat_ofInt]
  omega
 rw [h1]
 exact wr_u8 hh
theorem andNot_r {h : Int} (hh : 0 ≤ h ∧ h < 256) : bits BinOp.andNot IntKind.u8 h 0 = h := by
 show IntKind.u8.wrap (((BitVec.ofInt 8 h &&& ~~~ BitVec.ofInt 8 0).toNat : Nat) : Int) = h
 have e : (~~~ BitVec.ofInt 8 0 : BitVec 8) = BitVec.allOnes 8 := by decide
 rw [e, BitVec.and_allOnes]
 exact u8_of hh
theorem pmixValid_fn (p : Prob) (m : MixD) (hu : u8s m.held) : FnSound Tryz.prog 268 [.val true (probC p), .val true (mixC m)] [] { vals := [(false, [.d (.v (.int .i64 (mixErr p m)))])] } := by
 have hu := u8s_get hu
 refine startW (tm := [(0, _), (1, _)]) Tryz.func268 rfl Tryz.ntmps268 rfl rfl rfl rfl ?_
 repeat' (first
 |(with_reducible refine K_ca 63 ?_); refine zC (vp_fn p) ?_
 |(with_reducible refine K_ca 145 ?_); refine zC (pstored_fn (p.tabs.getD j nilT)) ?_
 |(with_reducible refine K_ca 311 ?_); refine zC (prun_fn m (p.tabs.getD j nilT).frm (by omega) (by omega) (by omega)) ?_
 |(with_reducible refine blk_at (id := 0) ?_); ((with_reducible refine JL.loopW 0 799 (fun (k : Nat) tm => (45, .one false [.d (.v (.int .i64 ((k : Int))))]) :: tm) (fun (k : Nat) bo => bo) (fun (k : Nat) => k ≤ p.vs.length ∧ (∀ i, i < k → svcI p.vs m.base m.next i = 0)) (fun (k : Nat) => p.vs.length - k) (0) ?_ (fun k hk => have hvp := vp_all (p := p) (by assumption); ?_) ?_); (focus (apply SubW [] rfl ?_ ?_ rfl ?_; (repeat' (first | exact kA | refine kB ?_ | refine kC ?_ ?_ | exact kD | fail)))))
 |((with_reducible refine round_next (i := k) (k + 1) ?_ ?_ ?_); (focus (apply SubW [] rfl ?_ ?_ rfl ?_; (repeat' (first | exact kA | refine kB ?_ | refine kC ?_ ?_ | exact kD | fail)))))
 |(with_reducible refine blk_at (id := 2) ?_); ((with_reducible refine JL.loopW 2 1599 (fun (j : Nat) tm => (97, .one false [.d (.v (.int .i64 ((j : Int))))]) :: tm) (fun (j : Nat) bo => bo) (fun (j : Nat) => j ≤ p.tabs.length ∧ (∀ i, i < p.vs.length → svcI p.vs m.base m.next i = 0) ∧ ∀ i, i < j → heldB p m (p.tabs.getD i nilT) (m.held.getD i 0) = false) (fun (j : Nat) => p.tabs.length - j) (0) ?_ (fun j hj => have hvp := vp_all (p := p) (by assumption); have htn := tabN (p := p) (by assumption) j; have hsn := svc_nn (m := m) hj.2.1 (p.tabs.getD j nilT).frm; have hz1 := andNot_l (m.held.getD j 0); have hz2 := andNot_r (hu j); ?_) ?_); (focus (apply SubW [] rfl ?_ ?_ rfl ?_; (repeat' (first | exact kA | refine kB ?_ | refine kC ?_ ?_ | exact kD | fail)))))
 |((with_reducible refine round_next (i := j) (j + 1) ?_ ?_ ?_); (focus (apply SubW [] rfl ?_ ?_ rfl ?_; (repeat' (first | exact kA | refine kB ?_ | refine kC ?_ ?_ | exact kD | fail)))))
 |refine wA ?_
 |(refine wC ?_ ?_ <;> intro hc)
 |refine wB ?_ ?_
 |(with_reducible refine JL.block ?_)
 |(with_reducible refine F_at ?_); refine eW (vs := [(_, _)]) Tryz.results268 ?_; (focus (repeat' (first | exact oA | refine oB ?_ | refine oC ?_ ?_ | fail)))
 |exact oM
 |fail)
 all_goals first
  | exact (mixErr_vp hc).symm
  | exact (mixErr_ar (by assumption) (by omega)).symm
  | exact ⟨by omega, fun i hi => by omega⟩
  | exact (mixErr_svc (k := k) (e := 7) (by assumption) (by omega) (by omega) (by omega) (by omega) hk.2 (by unfold svcI svcE; rw [if_pos (by omega)]) (by decide)).symm
  | exact (mixErr_svc (k := k) (e := 1) (by assumption) (by omega) (by omega) (by omega) (by omega) hk.2 (by unfold svcI svcE; rw [if_neg (by omega), if_pos hc]) (by decide)).symm
  | (refine ⟨by omega, fun i hi => ?_⟩; by_cases e : i = k; (subst e; unfold svcI svcE; rw [if_neg (by omega), if_neg (by omega)]); exact hk.2 i (by omega))
  | exact ⟨by omega, fun i hi => hk.2 i (by omega), fun i hi => by omega⟩
  | exact (mixErr_held (k := j) (by assumption) (by omega) (by omega) (by omega) hj.2.1 (by omega) hj.2.2 (by simp only [heldB, storedB, allV, one8]; grind)).symm
  | (refine ⟨by omega, hj.2.1, fun i hi => ?_⟩; by_cases e : i = j; (subst e; simp only [heldB, storedB, allV, one8]; grind); exact hj.2.2 i (by omega))
  | exact (mixErr_ok (by assumption) (by omega) (by omega) (by omega) hj.2.1 (fun i hi => hj.2.2 i (by omega))).symm
  | trace_state
theorem pmixValidOK_fn {p : Prob} {m : MixD} (hu : u8s m.held) (h : mixErr p m = 0) : FnSound Tryz.prog 268 [.val true (probC p), .val true (mixC m)] [] { vals := [(false, [.d (.v (.int .i64 0))])] } := by rw [← h]; exact pmixValid_fn p m hu
theorem pvpOK_fn {p : Prob} (h : vpErr p = 0) : FnSound Tryz.prog 63 [.val true (probC p)] [] { vals := [(false, [.d (.v (.int .i64 0))])] } := by rw [← h]; exact vp_fn p
end Go.Proofs.YtfnljcallbalgaaGreatDoor

