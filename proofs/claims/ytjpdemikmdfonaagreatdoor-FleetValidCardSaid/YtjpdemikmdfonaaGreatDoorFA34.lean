/- Rules of runs and contracts of functions, for the claims of one seat. -/
import Derived.Test.YtjpdemikmdfonaaGreatDoorFA15
import Derived.Test.YtjpdemikmdfonaaGreatDoorFA19
import Derived.Test.YtjpdemikmdfonaaGreatDoorFA22
import Derived.Test.YtjpdemikmdfonaaGreatDoorFA26
import Derived.Test.YtjpdemikmdfonaaGreatDoorFA27
import Derived.Test.YtjpdemikmdfonaaGreatDoorFA33
namespace Go.Proofs.YtjpdemikmdfonaaGreatDoor
open Go Go.RowKit
set_option maxRecDepth 100000
set_option maxHeartbeats 8000000
set_option linter.unusedSimpArgs false
set_option linter.unusedVariables false
theorem peach1_fn (l : List TypD) (t : Int) (v : ValD) (h : FnSound Tryz.prog 260 [.val true (schC l), .val false [.d (.v (.int .i64 t))], .val true (valC v), .val false [.d (.v (.bool true))]] [] { vals := [(false, [.d (.v (.bool (plainP l t v)))])] }) : FnSound Tryz.prog 342 [.val true (valC v), .val false [.rptr [.sl 10 (dTyps l)] 0], .val false [.rptr [.v (.int .i64 t)] 0], .val false [.rptr [.v (.bool true)] 0]] [] { vals := [(false, [.d (.v (.bool (!plainP l t v)))])] } := by
 refine startW (tm := [(0, _), (1, _), (2, _), (3, _)]) Tryz.func342 rfl Tryz.ntmps342 rfl rfl rfl rfl ?_
 repeat' (first
 |(with_reducible refine K_ca 260 ?_); refine zC (h) ?_
 |refine wA ?_
 |(refine wC ?_ ?_ <;> intro hc)
 |refine wB ?_ ?_
 |(with_reducible refine JL.block ?_)
 |(with_reducible refine F_at ?_); refine eW (vs := [(_, _)]) Tryz.results342 ?_; (focus (repeat' (first | exact oA | refine oB ?_ | refine oC ?_ ?_ | fail)))
 |exact oM
 |fail)
 all_goals first | with_reducible rfl | trace_state
theorem bo_each1 : BoI Tryz.prog 342 := ⟨by kernel_rfl⟩
def idxV (l : List TypD) (t : Int) (vs : List ValD) : Int := match vs.findIdx? (fun v => !plainP l t v) with
 | some k => (k : Int)
 | none => -1
theorem idxV_some {l : List TypD} {t : Int} {vs : List ValD} {k : Nat} (hk : k < vs.length) (h : ∀ i, i < k → (!plainP l t (vs.getD i nilV)) = false) (he : (!plainP l t (vs.getD k nilV)) = true) : (k : Int) = idxV l t vs := by
 unfold idxV; rw [find_some (p := fun v => !plainP l t v) hk h he]
theorem idxV_none {l : List TypD} {t : Int} {vs : List ValD} (h : ∀ i, i < vs.length → (!plainP l t (vs.getD i nilV)) = false) : -1 = idxV l t vs := by
 unfold idxV; rw [find_none (p := fun v => !plainP l t v) h]
theorem idxV_all {l : List TypD} {t : Int} {vs : List ValD} : (!decide (0 ≤ idxV l t vs)) = plainAll l t vs := by
 rw [plainAll_eq]
 unfold idxV
 cases e : vs.findIdx? (fun v => !plainP l t v) with
 | none =>
  rw [List.findIdx?_eq_none_iff] at e
  symm
  rw [List.all_eq_true.2 fun x hx => by simpa using e x hx]; rfl
 | some k =>
  obtain ⟨h1, h2, _⟩ := List.findIdx?_eq_some_iff_getElem.1 e
  symm
  rw [List.all_eq_false.2 ⟨vs[k], List.getElem_mem h1, by simpa using h2⟩]
  simp
theorem pidxV_fn (l : List TypD) (t : Int) (vs : List ValD) (hl : vs.length ≤ 5900000000000) (hF : ∀ k, k < vs.length → FnSound Tryz.prog 342 [.val true (valC (vs.getD k nilV)), .val false [.rptr [.sl 10 (dTyps l)] 0], .val false [.rptr [.v (.int .i64 t)] 0], .val false [.rptr [.v (.bool true)] 0]] [] { vals := [(false, [.d (.v (.bool (!plainP l t (vs.getD k nilV))))])] }) : FnSound Tryz.prog 376 [.val false [.d (.sl 8 (dVals vs))], .val false [.fn 342 [.rptr [.sl 10 (dTyps l)] 0, .rptr [.v (.int .i64 t)] 0, .rptr [.v (.bool true)] 0]]] [] { vals := [(false, [.d (.v (.int .i64 (idxV l t vs)))])] } := by
 refine startW (tm := [(0, _), (1, _)]) Tryz.func376 rfl Tryz.ntmps376 rfl rfl rfl rfl ?_
 repeat' (first
 |(with_reducible refine W_at ?_); (first
 |(refine W.callC rfl bo_each1 rfl rfl rfl (hF k (by omega)) rfl rfl ?_))
 |(with_reducible refine blk_at (id := 0) ?_); ((with_reducible refine JL.loopW 0 299 (fun (k : Nat) tm => (8, .one false [.d (.v (.int .i64 ((k : Int))))]) :: tm) (fun (k : Nat) bo => bo) (fun (k : Nat) => k ≤ vs.length ∧ ∀ i, i < k → (!plainP l t (vs.getD i nilV)) = false) (fun (k : Nat) => vs.length - k) (0) ?_ (fun k hk => ?_) ?_); (focus (apply SubW [] rfl ?_ ?_ rfl ?_; (repeat' (first | exact kA | refine kB ?_ | refine kC ?_ ?_ | exact kD | fail)))))
 |((with_reducible refine round_next (i := k) (k + 1) ?_ ?_ ?_); (focus (apply SubW [] rfl ?_ ?_ rfl ?_; (repeat' (first | exact kA | refine kB ?_ | refine kC ?_ ?_ | exact kD | fail)))))
 |refine wA ?_
 |(refine wC ?_ ?_ <;> intro hc)
 |refine wB ?_ ?_
 |(with_reducible refine JL.block ?_)
 |(with_reducible refine F_at ?_); refine eW (vs := [(_, _)]) Tryz.results376 ?_; (focus (repeat' (first | exact oA | refine oB ?_ | refine oC ?_ ?_ | fail)))
 |exact oM
 |fail)
 all_goals first
  | with_reducible rfl
  | omega
  | exact ⟨Nat.zero_le _, fun i hi => absurd hi (Nat.not_lt_zero i)⟩
  | exact ⟨by omega, lt_next hk.2 hc⟩
  | exact idxV_some (by omega) hk.2 hc
  | exact idxV_none (fun i hi => hk.2 i (by omega))
  | trace_state
theorem pconV_fn (l : List TypD) (t : Int) (vs : List ValD) (hl : vs.length ≤ 5900000000000) (hF : ∀ k, k < vs.length → FnSound Tryz.prog 342 [.val true (valC (vs.getD k nilV)), .val false [.rptr [.sl 10 (dTyps l)] 0], .val false [.rptr [.v (.int .i64 t)] 0], .val false [.rptr [.v (.bool true)] 0]] [] { vals := [(false, [.d (.v (.bool (!plainP l t (vs.getD k nilV))))])] }) : FnSound Tryz.prog 341 [.val false [.d (.sl 8 (dVals vs))], .val false [.fn 342 [.rptr [.sl 10 (dTyps l)] 0, .rptr [.v (.int .i64 t)] 0, .rptr [.v (.bool true)] 0]]] [] { vals := [(false, [.d (.v (.bool (decide (0 ≤ idxV l t vs))))])] } := by
 refine startW (tm := [(0, _), (1, _)]) Tryz.func341 rfl Tryz.ntmps341 rfl rfl rfl rfl ?_
 repeat' (first
 |(with_reducible refine K_ca 376 ?_); refine zC (pidxV_fn l t vs hl hF) ?_
 |refine wA ?_
 |(refine wC ?_ ?_ <;> intro hc)
 |refine wB ?_ ?_
 |(with_reducible refine JL.block ?_)
 |(with_reducible refine F_at ?_); refine eW (vs := [(_, _)]) Tryz.results341 ?_; (focus (repeat' (first | exact oA | refine oB ?_ | refine oC ?_ ?_ | fail)))
 |exact oM
 |fail)
 all_goals first | with_reducible rfl | trace_state
theorem peach_fn (l : List TypD) (t : Int) (vs : List ValD) (hl : vs.length ≤ 5900000000000) (ih : ∀ k, k < vs.length → FnSound Tryz.prog 260 [.val true (schC l), .val false [.d (.v (.int .i64 t))], .val true (valC (vs.getD k nilV)), .val false [.d (.v (.bool true))]] [] { vals := [(false, [.d (.v (.bool (plainP l t (vs.getD k nilV))))])] }) : FnSound Tryz.prog 297 [.val true (schC l), .val false [.d (.v (.int .i64 t))], .val false [.d (.sl 8 (dVals vs))], .val false [.d (.v (.bool true))]] [] { vals := [(false, [.d (.v (.bool (plainAll l t vs)))])] } := by
 have hF := fun k (hk : k < vs.length) => peach1_fn l t _ (ih k hk)
 refine startW (tm := [(0, _), (1, _), (2, _), (3, _)]) Tryz.func297 rfl Tryz.ntmps297 rfl rfl rfl rfl ?_
 repeat' (first
 |(with_reducible refine rgL (fun g => g == 341) ?_ ?_); exact rfl
 |(with_reducible refine K_ca 341 ?_); refine zC (pconV_fn l t vs hl hF) ?_
 |(with_reducible refine W_at ?_); (first
 |(refine W.mkfn rfl rfl ?_))
 |refine wA ?_
 |(refine wC ?_ ?_ <;> intro hc)
 |refine wB ?_ ?_
 |(with_reducible refine JL.block ?_)
 |(with_reducible refine F_at ?_); refine eW (vs := [(_, _)]) Tryz.results297 ?_; (focus (repeat' (first | exact oA | refine oB ?_ | refine oC ?_ ?_ | fail)))
 |exact oM
 |fail)
 all_goals first | with_reducible rfl | exact idxV_all | (rw [← idxV_all, decide_not]; done) | trace_state
end Go.Proofs.YtjpdemikmdfonaaGreatDoor

namespace Go.Proofs.YtjpdemikmdfonaaGreatDoor
open Go Go.RowKit
set_option maxRecDepth 100000
set_option maxHeartbeats 8000000
set_option linter.unusedSimpArgs false
set_option linter.unusedVariables false
theorem zero_rest {v : ValD} (h : zeroP v = true) (hk : ¬ (v.kind = 5 ∨ v.kind = 6)) : v.rest = [] := by
 simp only [zeroP, Bool.and_eq_true, Bool.or_eq_true, decide_eq_true_eq, List.isEmpty_iff] at h
 exact h.2.resolve_left hk
theorem fitG2 {l : List TypD} {t : Int} {v : ValD} (h1 : ¬ t < 0) (h2 : ¬ (l.length : Int) ≤ t) (h3 : v.kind = (l.getD t.toNat nilT0).kind) (h4 : (!zeroP v) = false) (h5 : ¬ ((l.getD t.toNat nilT0).kind = 5 ∨ (l.getD t.toNat nilT0).kind = 6) ∨ ¬ 0 < (v.rest.length : Int)) : FitG l t v :=
 ⟨h1, h2, h3, nf h4, by
  rcases h5 with h5 | h5
  ·exact zero_rest (nf h4) (by rw [h3]; exact h5)
  ·exact List.length_eq_zero_iff.1 (by omega)⟩
theorem pfit1 (l : List TypD) (hS : SchOk l) (t : Int) (v : ValD) (hv : v.keys.length ≤ 5900000000000 ∧ v.items.length ≤ 5900000000000 ∧ v.rest.length ≤ 5900000000000) (hkr : ∀ k, k < v.keys.length → -9223372036854775808 ≤ (v.keys.getD k nilV).n ∧ (v.keys.getD k nilV).n ≤ 9223372036854775807)
    (ihI : ∀ (t : Int) (k : Nat), k < v.items.length → FnSound Tryz.prog 260 [.val true (schC l), .val false [.d (.v (.int .i64 t))], .val true (valC (v.items.getD k nilV)), .val false [.d (.v (.bool true))]] [] { vals := [(false, [.d (.v (.bool (plainP l t (v.items.getD k nilV))))])] })
    (ihA : ∀ (t : Int), FnSound Tryz.prog 297 [.val true (schC l), .val false [.d (.v (.int .i64 t))], .val false [.d (.sl 8 (dVals v.items))], .val false [.d (.v (.bool true))]] [] { vals := [(false, [.d (.v (.bool (plainAll l t v.items)))])] })
    (ihK : ∀ (t : Int), FnSound Tryz.prog 297 [.val true (schC l), .val false [.d (.v (.int .i64 t))], .val false [.d (.sl 8 (dVals v.keys))], .val false [.d (.v (.bool true))]] [] { vals := [(false, [.d (.v (.bool (plainAll l t v.keys)))])] }) :
    FnSound Tryz.prog 260 [.val true (schC l), .val false [.d (.v (.int .i64 t))], .val true (valC v), .val false [.d (.v (.bool true))]] [] { vals := [(false, [.d (.v (.bool (plainP l t v)))])] } := by
 have hty := fun (h1 : 0 ≤ t) (h2 : t < l.length) => typIn_of hS.ok (show t.toNat < l.length by omega)
 have hty9 := fun (h1 : 0 ≤ t) (h2 : t < l.length) => (hty h1 h2).kind
 have htyf := fun (h1 : 0 ≤ t) (h2 : t < l.length) => (hty h1 h2).few
 have hl := hS.sm.1
 refine startW (tm := [(0, _), (1, _), (2, _), (3, _)]) Tryz.func260 rfl Tryz.ntmps260 rfl rfl rfl rfl ?_
 repeat' (first
 |(with_reducible refine rgn 43 4300 ?_ ?_); exact rfl
 |(with_reducible refine rgn 44 4400 ?_ ?_); exact rfl
 |(with_reducible refine rgn 42 4500 ?_ ?_); exact rfl
 |(with_reducible refine K_ca 295 ?_); refine zC (pproper_fn v (by omega)) ?_
 |(with_reducible refine K_ca 193 ?_); (first
 |refine W.call0T rfl BoC.h (psym_fn _ _ (by omega)) rfl rfl rfl ?_
 |refine W.call1T rfl BoC.h (psym_fn _ _ (by omega)) rfl rfl rfl rfl rfl ?_)
 |(with_reducible refine K_ca 192 ?_); (first
 |refine W.call0T rfl BoC.h (pmem_fn _ _ (by omega)) rfl rfl rfl ?_
 |refine W.call1T rfl BoC.h (pmem_fn _ _ (by omega)) rfl rfl rfl rfl rfl ?_)
 |(with_reducible refine K_ca 260 ?_); (first
 |refine W.call0A rfl BoC.h (ihI _ _ (by omega)) rfl rfl rfl ?_
 |refine W.call1A rfl BoC.h (ihI _ _ (by omega)) rfl rfl rfl rfl rfl ?_
 |refine W.call0A rfl BoC.h (ihI _ 0 (by omega)) rfl rfl rfl ?_
 |refine W.call1A rfl BoC.h (ihI _ 0 (by omega)) rfl rfl rfl rfl rfl ?_)
 |(with_reducible refine K_ca 297 ?_); (first
 |refine zC (ihA _) ?_
 |refine zC (ihK _) ?_)
 |(with_reducible refine K_ca 298 ?_); (first
 |refine W.call0A rfl BoC.h (pcompare_fn _ _ (hkr _ (by omega)) (hkr _ (by omega))) rfl rfl rfl ?_
 |refine W.call1A rfl BoC.h (pcompare_fn _ _ (hkr _ (by omega)) (hkr _ (by omega))) rfl rfl rfl rfl rfl ?_)
 |(with_reducible refine blk_at (id := 1) ?_); ((with_reducible refine JL.loopW 1 1899 (fun (r : Nat) tm => (113, .one false [.d (.v (.int .i64 ((r : Int))))]) :: tm) (fun (r : Nat) bo => bo) (fun (r : Nat) => r = 0 ∧ v.rest.length = 0) (fun (r : Nat) => 1 - r) (0) ?_ (fun r hr => ?_) ?_); (focus (apply SubW [] rfl ?_ ?_ rfl ?_; (repeat' (first | exact kA | refine kB ?_ | refine kC ?_ ?_ | exact kD | fail)))))
 |((with_reducible refine round_next (i := r) (r + 1) ?_ ?_ ?_); (focus (apply SubW [] rfl ?_ ?_ rfl ?_; (repeat' (first | exact kA | refine kB ?_ | refine kC ?_ ?_ | exact kD | fail)))))
 |(with_reducible refine blk_at (id := 3) ?_); ((with_reducible refine JL.loopW 3 2599 (fun (k : Nat) tm => (152, .one false [.d (.v (.int .i64 ((k : Int))))]) :: tm) (fun (k : Nat) bo => bo) (fun (k : Nat) => k ≤ v.items.length ∧ ∀ j, j < k → plainP l ((l.getD t.toNat nilT0).mems.getD j nilM0).typ (v.items.getD j nilV) = true) (fun (k : Nat) => v.items.length - k) (0) ?_ (fun k hk => ?_) ?_); (focus (apply SubW [] rfl ?_ ?_ rfl ?_; (repeat' (first | exact kA | refine kB ?_ | refine kC ?_ ?_ | exact kD | fail)))))
 |((with_reducible refine round_next (i := k) (k + 1) ?_ ?_ ?_); (focus (apply SubW [] rfl ?_ ?_ rfl ?_; (repeat' (first | exact kA | refine kB ?_ | refine kC ?_ ?_ | exact kD | fail)))))
 |(with_reducible refine blk_at (id := 5) ?_); ((with_reducible refine JL.loopW 5 4199 (fun (j : Nat) tm => (20, .one false [.d (.v (.int .i64 ((j : Int))))]) :: tm) (fun (j : Nat) bo => bo) (fun (j : Nat) => (j ≤ v.keys.length ∨ j = 1) ∧ 1 ≤ j ∧ ascTo v.keys j) (fun (j : Nat) => v.keys.length - j) (1) ?_ (fun j hj => ?_) ?_); (focus (apply SubW [] rfl ?_ ?_ rfl ?_; (repeat' (first | exact kA | refine kB ?_ | refine kC ?_ ?_ | exact kD | fail)))))
 |((with_reducible refine round_next (i := j) (j + 1) ?_ ?_ ?_); (focus (apply SubW [] rfl ?_ ?_ rfl ?_; (repeat' (first | exact kA | refine kB ?_ | refine kC ?_ ?_ | exact kD | fail)))))
 |refine wA ?_
 |(refine wC ?_ ?_ <;> intro hc)
 |refine wB ?_ ?_
 |(with_reducible refine JL.block ?_)
 |(with_reducible refine F_at ?_); refine eW (vs := [(_, _)]) Tryz.results260 ?_; (focus (repeat' (first | exact oA | refine oB ?_ | refine oC ?_ ?_ | fail)))
 |exact oM
 |fail)
 all_goals first
  | with_reducible rfl
  | omega
  | exact pl_out (by omega)
  | exact pl_bad (by assumption) (by assumption) (.inl hc)
  | exact pl_bad (by assumption) (by assumption) (.inr (.inl (nt hc)))
  | (refine pl_bad (by assumption) (by assumption) (.inr (.inr ?_)); intro e; rw [e] at hc; simp at hc; done)
  | (exfalso; omega)
  | exact ⟨Nat.zero_le _, fun j hj => absurd hj (Nat.not_lt_zero j)⟩
  | exact ⟨.inr rfl, Nat.le_refl 1, fun j hj => by omega⟩
  | exact ⟨rfl, by omega⟩
  | exact memAt_lt (by assumption)
  | (have G := fitG2 (l := l) (t := t) (v := v) (by assumption) (by assumption) (by assumption) (by assumption) (by omega)
     first
      | exact pl_1 G (by omega)
      | exact pl_2y G (by assumption) hc
      | exact pl_2n G (by assumption) hc
      | exact pl_3 G (by assumption)
      | exact hc.symm.trans (pl_4 G (by assumption))
      | exact (by assumption : (symAt _ _).isSome = false).symm.trans (pl_4 G (by assumption))
      | exact pl_5n G (by assumption) hc
      | exact pl_5a G (by assumption) (by assumption) (k := k) (by omega) (nt hc)
      | exact ⟨by omega, lt_next hk.2 (nf hc)⟩
      | exact pl_5y G (by assumption) (by assumption) (fun j hj => hk.2 j (by omega))
      | exact pl_6y G (by assumption) (by assumption) (by assumption)
      | exact pl_6o G (by assumption) hc
      | exact pl_6n G (by assumption) (by assumption)
      | exact pl_7y G (by assumption) hc
      | exact pl_7n G (by assumption) hc
      | exact pl_8n G (by assumption) (by omega)
      | exact pl_8k G (by assumption) (nt hc)
      | exact pl_8a G (by assumption) hj.2.1 (by assumption) hc
      | (refine ⟨.inl (by omega), by omega, fun i hi => ?_⟩
         rcases Nat.lt_or_ge (i + 1) j with e | e
         ·exact hj.2.2 i e
         ·rw [show i = ((j : Int) - 1).toNat by omega, show ((j : Int) - 1).toNat + 1 = j by omega]; omega)
      | exact pl_8y G (by assumption) (by omega) (nf (by assumption)) (fun i hi => hj.2.2 i (by omega))
      | exact pl_9y G (by omega) hc
      | exact pl_9n G (by omega) hc
      | fail)
  | (refine pl_bad (by assumption) (by assumption) (.inr (.inr ?_)); intro e; have e2 := congrArg List.length e; simp only [List.length_nil] at e2; omega)
  | (by_cases hr : v.rest = []
     ·have G : FitG l t v := ⟨by assumption, by assumption, by assumption, nf (by assumption), hr⟩
      first | exact pl_5n G (by assumption) hc | exact pl_6o G (by assumption) hc | exact pl_6n G (by assumption) (by assumption)
     ·exact pl_bad (by assumption) (by assumption) (.inr (.inr hr)))
  | trace_state
mutual
theorem pfit_fn (l : List TypD) (hS : SchOk l) : ∀ (v : ValD), smV v → ∀ (t : Int), FnSound Tryz.prog 260 [.val true (schC l), .val false [.d (.v (.int .i64 t))], .val true (valC v), .val false [.d (.v (.bool true))]] [] { vals := [(false, [.d (.v (.bool (plainP l t v)))])] }
 | .mk k b n s i ks is rs, h, t => by
  unfold smV at h
  exact pfit1 l hS t (.mk k b n s i ks is rs) ⟨h.1.1, h.1.2.1, h.1.2.2.1⟩ (fun j hj => rg_all ks h.2.1 j _ (getD_eq hj)) (fun t j hj => pfit_all l hS is h.2.2 j _ (getD_eq hj) t) (fun t => peach_fn l t is h.1.2.1 (fun j hj => pfit_all l hS is h.2.2 j _ (getD_eq hj) t)) (fun t => peach_fn l t ks h.1.1 (fun j hj => pfit_all l hS ks h.2.1 j _ (getD_eq hj) t))
theorem pfit_all (l : List TypD) (hS : SchOk l) : ∀ (vs : List ValD), smVs vs → ∀ (j : Nat) (v : ValD), vs[j]? = some v → ∀ (t : Int), FnSound Tryz.prog 260 [.val true (schC l), .val false [.d (.v (.int .i64 t))], .val true (valC v), .val false [.d (.v (.bool true))]] [] { vals := [(false, [.d (.v (.bool (plainP l t v)))])] }
 | [], _, j, v, hv, t => by simp at hv
 | x :: r, h, j, v, hv, t => by
  unfold smVs at h
  match j with
  | 0 => simp at hv; subst hv; exact pfit_fn l hS x h.1 t
  | j + 1 => exact pfit_all l hS r h.2 j v (by simpa using hv) t
end
theorem pplain8_fn (l : List TypD) (hS : SchOk l) (t : Int) (v : ValD) (hv : smV v) : FnSound Tryz.prog 196 [.val true (schC l), .val false [.d (.v (.int .i64 t))], .val true (valC v)] [] { vals := [(false, [.d (.v (.bool (plainP l t v)))])] } := by
 have h := pfit_fn l hS v hv t
 refine startW (tm := [(0, _), (1, _), (2, _)]) Tryz.func196 rfl Tryz.ntmps196 rfl rfl rfl rfl ?_
 repeat' (first
 |(with_reducible refine K_ca 260 ?_); refine zC (h) ?_
 |refine wA ?_
 |(refine wC ?_ ?_ <;> intro hc)
 |refine wB ?_ ?_
 |(with_reducible refine JL.block ?_)
 |(with_reducible refine F_at ?_); refine eW (vs := [(_, _)]) Tryz.results196 ?_; (focus (repeat' (first | exact oA | refine oB ?_ | refine oC ?_ ?_ | fail)))
 |exact oM
 |fail)
 all_goals first | rfl | trace_state
end Go.Proofs.YtjpdemikmdfonaaGreatDoor

namespace Go.Proofs.YtjpdemikmdfonaaGreatDoor
open Go Go.RowKit
set_option maxRecDepth 100000
set_option maxHeartbeats 8000000
set_option linter.unusedSimpArgs false
set_option linter.unusedVariables false
theorem pdef_fn (l : List TypD) (hS : SchOk l) : FnSound Tryz.prog 139 [.val true (schC l)] [] { vals := [(false, [.d (.v (.int .i64 (defT l)))]), (false, [.d (.v (.int .i64 (defM l)))]), (false, [.d (.v (.int .i64 (defErr l)))])] } := by
 have hv := pschema_fn l hS.sm
 rw [hS.ok] at hv
 have hl := hS.sm.1
 have hm := fun (i : Nat) (h : i < l.length) => (hS.sm.2 i h).1.2
 refine startW (tm := [(0, _)]) Tryz.func139 rfl Tryz.ntmps139 rfl rfl rfl rfl ?_
 repeat' (first
 |(with_reducible refine K_ca 79 ?_); refine zC (hv) ?_
 |(with_reducible refine K_ca 196 ?_); (first
 |refine W.call0A rfl BoC.h (pplain8_fn l hS _ _ ((hS.sm.2 i (by omega)).2 k (by omega))) rfl rfl rfl ?_
 |refine W.call1A rfl BoC.h (pplain8_fn l hS _ _ ((hS.sm.2 i (by omega)).2 k (by omega))) rfl rfl rfl rfl rfl ?_)
 |(with_reducible refine blk_at (id := 0) ?_); ((with_reducible refine JL.loopW 0 599 (fun (i : Nat) tm => (18, .one false [.d (.v (.int .i64 ((i : Int))))]) :: tm) (fun (i : Nat) bo => bo) (fun (i : Nat) => i ≤ l.length ∧ ∀ j, j < i → badT l (l.getD j nilT0) = false) (fun (i : Nat) => l.length - i) (0) ?_ (fun i hi => have hmi := hm i; ?_) ?_); (focus (apply SubW [] rfl ?_ ?_ rfl ?_; (repeat' (first | exact kA | refine kB ?_ | refine kC ?_ ?_ | exact kD | fail)))))
 |((with_reducible refine round_next (i := i) (i + 1) ?_ ?_ ?_); (focus (apply SubW [] rfl ?_ ?_ rfl ?_; (repeat' (first | exact kA | refine kB ?_ | refine kC ?_ ?_ | exact kD | fail)))))
 |(with_reducible refine blk_at (id := 2) ?_); ((with_reducible refine JL.loopW 2 899 (fun (k : Nat) tm => (26, .one false [.d (.v (.int .i64 ((k : Int))))]) :: tm) (fun (k : Nat) bo => bo) (fun (k : Nat) => k ≤ (l.getD i nilT0).mems.length ∧ ∀ j, j < k → badM l ((l.getD i nilT0).mems.getD j nilM0) = false) (fun (k : Nat) => (l.getD i nilT0).mems.length - k) (0) ?_ (fun k hk => ?_) ?_); (focus (apply SubW [] rfl ?_ ?_ rfl ?_; (repeat' (first | exact kA | refine kB ?_ | refine kC ?_ ?_ | exact kD | fail)))))
 |((with_reducible refine round_next (i := k) (k + 1) ?_ ?_ ?_); (focus (apply SubW [] rfl ?_ ?_ rfl ?_; (repeat' (first | exact kA | refine kB ?_ | refine kC ?_ ?_ | exact kD | fail)))))
 |refine wA ?_
 |(refine wC ?_ ?_ <;> intro hc)
 |refine wB ?_ ?_
 |(with_reducible refine JL.block ?_)
 |(with_reducible refine F_at ?_); refine eW (vs := [(_, _), (_, _), (_, _)]) Tryz.results139 ?_; (focus (repeat' (first | exact oA | refine oB ?_ | refine oC ?_ ?_ | fail)))
 |exact oM
 |fail)
 all_goals first
  | with_reducible rfl
  | omega
  | exact ⟨Nat.zero_le _, fun j hj => absurd hj (Nat.not_lt_zero j)⟩
  | exact (def_bad (i := i) (k := k) (by omega) hi.2 (by omega) hk.2 (badM_y (by assumption) hc)).1.symm
  | exact (def_bad (i := i) (k := k) (by omega) hi.2 (by omega) hk.2 (badM_y (by assumption) hc)).2.1.symm
  | exact (def_bad (i := i) (k := k) (by omega) hi.2 (by omega) hk.2 (badM_y (by assumption) hc)).2.2.symm
  | exact ⟨by omega, lt_next hk.2 (badM_n (.inr hc))⟩
  | exact ⟨by omega, lt_next hk.2 (badM_n (.inl hc))⟩
  | exact ⟨by omega, lt_next hi.2 (any_not (d := nilM0) (fun j hj => hk.2 j (by omega)))⟩
  | exact (def_ok (l := l) (fun j hj => hi.2 j (by omega))).1.symm
  | exact (def_ok (l := l) (fun j hj => hi.2 j (by omega))).2.1.symm
  | exact (def_ok (l := l) (fun j hj => hi.2 j (by omega))).2.2.symm
  | trace_state
end Go.Proofs.YtjpdemikmdfonaaGreatDoor

namespace Go.Proofs.YtjpdemikmdfonaaGreatDoor
open Go Go.RowKit
set_option maxRecDepth 100000
set_option maxHeartbeats 8000000
set_option linter.unusedSimpArgs false
set_option linter.unusedVariables false
theorem uniS_next' {n : List Int} {ms : List MemD} {k : Nat} (h : k < ms.length) : uniS n (ms.take k) + n.getD (ms.getD k nilM0).typ.toNat 0 = uniS n (ms.take (k + 1)) := (uniS_next h).symm
theorem pcount_fn (l : List TypD) (t : TypD) (n : List Int) (ht : TypIn l t) (hn : n.length = l.length) (hl : l.length ≤ 32) (ho : okN n) : FnSound Tryz.prog 140 [.val true (typC t), .val false [.d (.sl 1 (dInts n))]] [] { vals := [(false, [.d (.v (.int .i64 (countQ n t)))])] } := by
 have hm := ht.mem
 have hf := ht.few
 have he := ht.elem
 have hky := ht.key
 have hr := fun k => (recC_fold ho (t.mems.take k) 1 (by omega)).1
 have hu : ∀ k, 0 ≤ uniS n (t.mems.take k) ∧ uniS n (t.mems.take k) ≤ 0 + 2 * (t.mems.take k).length := fun k => (uniS_fold ho (t.mems.take k) 0 (by omega)).1
 have htl := fun k => List.length_take (i := k) (l := t.mems)
 have hN := fun (i : Int) => ho i.toNat
 have hNe := hN t.elem
 refine startW (tm := [(0, _), (1, _)]) Tryz.func140 rfl Tryz.ntmps140 rfl rfl rfl rfl ?_
 repeat' (first
 |(with_reducible refine blk_at (id := 1) ?_); ((with_reducible refine JL.loopW 1 1399 (fun (k : Nat) tm => (35, .one false [.d (.v (.int .i64 ((k : Int))))]) :: (5, .one false [.d (.v (.int .i64 ((recC n (t.mems.take k)))))]) :: tm) (fun (k : Nat) bo => bo) (fun (k : Nat) => k ≤ t.mems.length) (fun (k : Nat) => t.mems.length - k) (0) ?_ (fun k hk => have hmk := hm k; have hrk := hr k; have hNk := hN (t.mems.getD k nilM0).typ; ?_) ?_); (focus (apply SubW [] rfl ?_ ?_ rfl ?_; (repeat' (first | exact kA | refine kB ?_ | refine kC ?_ ?_ | exact kD | fail)))))
 |((with_reducible refine round_next (i := k) (k + 1) ?_ ?_ ?_); (focus (apply SubW [] rfl ?_ ?_ rfl ?_; (repeat' (first | exact kA | refine kB ?_ | refine kC ?_ ?_ | exact kD | fail)))))
 |(with_reducible refine blk_at (id := 3) ?_); ((with_reducible refine JL.loopW 3 2199 (fun (j : Nat) tm => (54, .one false [.d (.v (.int .i64 ((j : Int))))]) :: (8, .one false [.d (.v (.int .i64 ((uniS n (t.mems.take j)))))]) :: tm) (fun (j : Nat) bo => bo) (fun (j : Nat) => j ≤ t.mems.length) (fun (j : Nat) => t.mems.length - j) (0) ?_ (fun j hj => have hmk := hm j; have hrk := hu j; have hNk := hN (t.mems.getD j nilM0).typ; have htj := htl j; ?_) ?_); (focus (apply SubW [] rfl ?_ ?_ rfl ?_; (repeat' (first | exact kA | refine kB ?_ | refine kC ?_ ?_ | exact kD | fail)))))
 |((with_reducible refine round_next (i := j) (j + 1) ?_ ?_ ?_); (focus (apply SubW [] rfl ?_ ?_ rfl ?_; (repeat' (first | exact kA | refine kB ?_ | refine kC ?_ ?_ | exact kD | fail)))))
 |refine wA ?_
 |(refine wC ?_ ?_ <;> intro hc)
 |refine wB ?_ ?_
 |(with_reducible refine JL.block ?_)
 |(with_reducible refine F_at ?_); refine eW (vs := [(_, _)]) Tryz.results140 ?_; (focus (repeat' (first | exact oA | refine oB ?_ | refine oC ?_ ?_ | fail)))
 |exact oM
 |fail)
 all_goals first
  | with_reducible rfl
  | omega
  | (with_reducible exact recC_step ho (by omega))
  | (with_reducible exact uniS_next' (by omega))
  | (rw [List.take_of_length_le (by omega)]; unfold countQ; (repeat' split) <;> first | omega | rfl | (exfalso; omega))
  | (rw [min_if]; unfold countQ nAt; (repeat' split) <;> first | omega | rfl | (exfalso; omega))
  | (unfold countQ nAt; (repeat' split) <;> first | omega | rfl | (exfalso; omega))
  | trace_state
def chgN (l : List TypD) (n : List Int) : Nat → Bool
 | 0 => false
 | i + 1 => chgN l n i || decide (¬ countQ2 (passN countQ2 l n i) (l.getD i nilT0) = (passN countQ2 l n i).getD i 0)
theorem set_same {n : List Int} {i : Nat} {v : Int} (h : v = n.getD i 0) : n.set i v = n := by
 refine list_extI (List.length_set ..) fun j => ?_
 rw [set_getD]
 split
 ·rename_i e; rw [h, e.1]
 ·rfl
theorem pass_same {l : List TypD} {n : List Int} {i : Nat} (h : countQ2 (passN countQ2 l n i) (l.getD i nilT0) = (passN countQ2 l n i).getD i 0) : passN countQ2 l n (i + 1) = passN countQ2 l n i := set_same h
theorem chg_sum {l : List TypD} {n : List Int} (hn : InvN countQ2 l n) : ∀ i, i ≤ l.length → n.sum ≤ (passN countQ2 l n i).sum ∧ (chgN l n i = true → n.sum < (passN countQ2 l n i).sum) ∧ (chgN l n i = false → passN countQ2 l n i = n)
 | 0, _ => ⟨Int.le_refl _, (fun h => by cases h), fun _ => rfl⟩
 | i + 1, hi => by
  obtain ⟨h1, h2, h3⟩ := chg_sum hn i (by omega)
  have hp := (hn.pass cntQ_ok i (by omega)).1
  have hs := hp.step cntQ_ok (i := i) (by omega)
  have hle := nsum_le (by rw [List.length_set]) hs.2
  have he : passN countQ2 l n (i + 1) = (passN countQ2 l n i).set i (countQ2 (passN countQ2 l n i) (l.getD i nilT0)) := rfl
  rw [he]
  unfold chgN
  by_cases g : countQ2 (passN countQ2 l n i) (l.getD i nilT0) = (passN countQ2 l n i).getD i 0
  ·rw [set_same g, decide_eq_false (not_not_intro g), Bool.or_false]
   exact ⟨h1, h2, h3⟩
  ·rw [decide_eq_true g, Bool.or_true]
   have hne : passN countQ2 l n i ≠ (passN countQ2 l n i).set i (countQ2 (passN countQ2 l n i) (l.getD i nilT0)) := fun e => g (by
    have := congrArg (fun x : List Int => x.getD i 0) e
    simp only [set_getD] at this
    rw [if_pos ⟨trivial, by rw [hp.len]; omega⟩] at this
    exact this.symm)
   have := hle.2 hne
   exact ⟨by omega, (fun _ => by omega), (fun h => by cases h)⟩
theorem cnt_end {l : List TypD} {k : Nat} (h : passA countQ2 l (iterA countQ2 l k) = iterA countQ2 l k) : iterA countQ2 l k = countsA countQ2 l := by
 rcases Nat.le_total k (2 * l.length + 1) with g | g
 ·exact (iter_fix h _ g).symm
 ·exact iter_fix (counts_fix cntQ_ok l) k g
def muC (l : List TypD) (p : Nat × Bool) : Nat := (2 * (l.length : Int) + 1 - (iterA countQ2 l p.1).sum).toNat + (if p.2 = true then 1 else 0)
theorem muC_next {l : List TypD} {p : Nat × Bool} (h : p.2 = true) : muC l (p.1 + 1, chgN l (iterA countQ2 l p.1) l.length) < muC l p := by
 have hi := inv_iter cntQ_ok l p.1
 have h1 := chg_sum hi l.length (Nat.le_refl _)
 have h2 := sum_rng hi.ok
 have h3 := sum_rng (inv_iter cntQ_ok l (p.1 + 1)).ok
 rw [hi.len] at h2
 rw [(inv_iter cntQ_ok l (p.1 + 1)).len] at h3
 have e : (iterA countQ2 l (p.1 + 1)).sum = (passN countQ2 l (iterA countQ2 l p.1) l.length).sum := rfl
 unfold muC
 rw [if_pos h, e]
 rw [e] at h3
 dsimp only
 split
 ·rename_i g; have := h1.2.1 g; omega
 ·rename_i g
  have := h1.2.2 (by simpa using g)
  rw [this]; omega
theorem chg_fix {l : List TypD} {k : Nat} (h : chgN l (iterA countQ2 l k) l.length = false) : passA countQ2 l (iterA countQ2 l (k + 1)) = iterA countQ2 l (k + 1) := by
 have h1 := (chg_sum (inv_iter cntQ_ok l k) l.length (Nat.le_refl _)).2.2 h
 have e : iterA countQ2 l (k + 1) = iterA countQ2 l k := h1
 rw [e]; exact h1
theorem passQ_inv (l : List TypD) (k i : Nat) (hi : i ≤ l.length) : InvN countQ2 l (passN countQ2 l (iterA countQ2 l k) i) := pass_inv cntQ_ok l k i hi
theorem pcounts_fn (l : List TypD) (hS : SchOk l) : FnSound Tryz.prog 102 [.val true (schC l)] [] { vals := [(false, [.d (.sl 1 (dInts (countsA countQ2 l)))])] } := by
 have hl := schema_few hS.ok
 have hpp := fun (k i : Nat) (hi : i ≤ l.length) => passQ_inv l k i hi
 have hT := fun (i : Nat) (hi : i < l.length) => typIn_of hS.ok hi
 refine startW (tm := [(0, _)]) Tryz.func102 rfl Tryz.ntmps102 rfl rfl rfl rfl ?_
 repeat' (first
 |(with_reducible refine rgL (fun g => g == 140) ?_ ?_); exact rfl
 |(with_reducible refine K_ca 140 ?_); (first
 |refine W.call0A rfl BoC.h (pcount_fn l _ (passN countQ2 l (iterA countQ2 l p.1) i) (hT _ (by omega)) hpi.len hl hpi.ok) rfl rfl rfl ?_
 |refine W.call1A rfl BoC.h (pcount_fn l _ (passN countQ2 l (iterA countQ2 l p.1) i) (hT _ (by omega)) hpi.len hl hpi.ok) rfl rfl rfl rfl rfl ?_)
 |(with_reducible refine blk_at (id := 0) ?_); (try (refine JL.zeroW 3 _ 3 1 rfl rfl ?_)); (refine JL.rekW 3 (1048, 351) rfl rfl rfl rfl ?_); ((with_reducible refine JL.loopW 0 399 (fun (p : Nat × Bool) tm => (3, .one false [.own (1048, 351)]) :: (4, .one false [.d (.v (.bool (p.2)))]) :: tm) (fun (p : Nat × Bool) bo => ((1048, 351), some (.sl 3 1 ((dInts (iterA countQ2 l p.1))))) :: bo) (fun (p : Nat × Bool) => p.2 = false → passA countQ2 l (iterA countQ2 l p.1) = iterA countQ2 l p.1) (fun (p : Nat × Bool) => muC l p) ((0, true)) ?_ (fun p hp => have hlk := iter_len cntQ_ok l p.1; ?_) ?_); (focus (apply SubW [((1048, 351), _)] rfl ?_ ?_ rfl ?_; (repeat' (first | exact kA | refine kB ?_ | refine kC ?_ ?_ | exact kD | fail)))))
 |((with_reducible refine round_next (i := p) ((p.1 + 1, chgN l (iterA countQ2 l p.1) l.length)) ?_ ?_ ?_); (focus (apply SubW [((1048, 351), _)] rfl ?_ ?_ rfl ?_; (repeat' (first | exact kA | refine kB ?_ | refine kC ?_ ?_ | exact kD | fail)))))
 |(with_reducible refine blk_at (id := 2) ?_); (try (refine JL.zeroW 3 _ 3 1 rfl rfl ?_)); (refine JL.rekW 3 (1048, 651) rfl rfl rfl rfl ?_); ((with_reducible refine JL.loopW 2 699 (fun (i : Nat) tm => (16, .one false [.d (.v (.int .i64 ((i : Int))))]) :: (3, .one false [.own (1048, 651)]) :: (4, .one false [.d (.v (.bool ((chgN l (iterA countQ2 l p.1) i))))]) :: tm) (fun (i : Nat) bo => ((1048, 651), some (.sl 3 1 ((dInts (passN countQ2 l (iterA countQ2 l p.1) i))))) :: bo) (fun (i : Nat) => i ≤ l.length) (fun (i : Nat) => l.length - i) (0) ?_ (fun i hi => have hpi := hpp p.1 i hi; have hli := hpi.len; ?_) ?_); (focus (apply SubW [((1048, 651), _)] rfl ?_ ?_ rfl ?_; (repeat' (first | exact kA | refine kB ?_ | refine kC ?_ ?_ | exact kD | fail)))))
 |((with_reducible refine round_next (i := i) (i + 1) ?_ ?_ ?_); (focus (apply SubW [((1048, 651), _)] rfl ?_ ?_ rfl ?_; (repeat' (first | exact kA | refine kB ?_ | refine kC ?_ ?_ | exact kD | fail)))))
 |refine wA ?_
 |(refine wC ?_ ?_ <;> intro hc)
 |refine wB ?_ ?_
 |(with_reducible refine JL.block ?_)
 |(with_reducible refine F_at ?_); refine eW (vs := [(_, _)]) Tryz.results102 ?_; (focus (repeat' (first | exact oA | refine oB ?_ | refine oC ?_ ?_ | fail)))
 |exact oM
 |fail)
 all_goals first
  | with_reducible rfl
  | omega
  | exact congrArg dInts (by rw [Int.toNat_natCast]; rfl)
  | exact rfl
  | (intro h; cases h)
  | exact muC_next (by assumption)
  | (rw [min_if] at hc; (try simp only [Int.toNat_natCast] at hc); show _ = (chgN l _ i || decide _); rw [decide_eq_true (show ¬ countQ2 _ _ = _ from hc), Bool.or_true]; done)
  | (rw [min_if] at hc; (try simp only [Int.toNat_natCast] at hc); show _ = (chgN l _ i || decide _); rw [decide_eq_false (not_not_intro (show countQ2 _ _ = _ from hc)), Bool.or_false]; done)
  | (refine congrArg dInts ?_; rw [min_if, Int.toNat_natCast]; rfl)
  | (refine congrArg dInts (pass_same ?_).symm; rw [min_if] at hc; (try simp only [Int.toNat_natCast] at hc); exact hc)
  | (refine congrArg dInts ?_; rw [show i = l.length by omega]; rfl)
  | exact congrArg dInts (cnt_end (hp hc))
  | exact chg_fix
  | (rw [show i = l.length by omega]; done)
  | (rw [show i = l.length by omega]; exact chg_fix)
  | trace_state
end Go.Proofs.YtjpdemikmdfonaaGreatDoor

namespace Go.Proofs.YtjpdemikmdfonaaGreatDoor
open Go Go.RowKit
set_option maxRecDepth 100000
set_option maxHeartbeats 8000000
set_option linter.unusedSimpArgs false
set_option linter.unusedVariables false
theorem perr_no (l : List TypD) (hs : smTs l) (h : ¬ schemaErr l = 0) : FnSound Tryz.prog 101 [.val true (schC l)] [] { vals := [(false, [.d (.v (.int .i64 (errS l)))])] } := by
 have e : errS l = schemaErr l := by unfold errS; rw [if_neg h]
 rw [e]
 refine startW (tm := [(0, _)]) Tryz.func101 rfl Tryz.ntmps101 rfl rfl rfl rfl ?_
 repeat' (first
 |(with_reducible refine K_ca 79 ?_); refine zC (pschema_fn l hs) ?_
 |refine wA ?_
 |(refine wC ?_ ?_ <;> intro hc)
 |refine wB ?_ ?_
 |(with_reducible refine JL.block ?_)
 |(with_reducible refine F_at ?_); refine eW (vs := [(_, _)]) Tryz.results101 ?_; (focus (repeat' (first | exact oA | refine oB ?_ | refine oC ?_ ?_ | fail)))
 |exact oM
 |fail)
 all_goals first | with_reducible rfl | exact absurd ‹_› h | trace_state
theorem perr_ok (l : List TypD) (hS : SchOk l) : FnSound Tryz.prog 101 [.val true (schC l)] [] { vals := [(false, [.d (.v (.int .i64 (errS l)))])] } := by
 have e : errS l = defErr l := by unfold errS; rw [if_pos hS.ok]
 rw [e]
 have hv := pschema_fn l hS.sm
 rw [hS.ok] at hv
 refine startW (tm := [(0, _)]) Tryz.func101 rfl Tryz.ntmps101 rfl rfl rfl rfl ?_
 repeat' (first
 |(with_reducible refine K_ca 79 ?_); refine zC (hv) ?_
 |(with_reducible refine K_ca 139 ?_); refine zC (pdef_fn l hS) ?_
 |refine wA ?_
 |(refine wC ?_ ?_ <;> intro hc)
 |refine wB ?_ ?_
 |(with_reducible refine JL.block ?_)
 |(with_reducible refine F_at ?_); refine eW (vs := [(_, _)]) Tryz.results101 ?_; (focus (repeat' (first | exact oA | refine oB ?_ | refine oC ?_ ?_ | fail)))
 |exact oM
 |fail)
 all_goals first | with_reducible rfl | trace_state
theorem perr_fn (l : List TypD) (hs : smTs l) : FnSound Tryz.prog 101 [.val true (schC l)] [] { vals := [(false, [.d (.v (.int .i64 (errS l)))])] } := by
 by_cases h : schemaErr l = 0
 ·exact perr_ok l ⟨hs, h⟩
 ·exact perr_no l hs h
theorem pfin_no (l : List TypD) (hs : smTs l) (h : ¬ errS l = 0) : FnSound Tryz.prog 76 [.val true (schC l)] [] { vals := [(false, [.d (.sl 1 (dBools []))]), (false, [.d (.v (.int .i64 (errS l)))])] } := by
 refine startW (tm := [(0, _)]) Tryz.func76 rfl Tryz.ntmps76 rfl rfl rfl rfl ?_
 repeat' (first
 |(with_reducible refine K_ca 101 ?_); refine zC (perr_fn l hs) ?_
 |refine wA ?_
 |(refine wC ?_ ?_ <;> intro hc)
 |refine wB ?_ ?_
 |(with_reducible refine JL.block ?_)
 |(with_reducible refine F_at ?_); refine eW (vs := [(_, _), (_, _)]) Tryz.results76 ?_; (focus (repeat' (first | exact oA | refine oB ?_ | refine oC ?_ ?_ | fail)))
 |exact oM
 |fail)
 all_goals first | with_reducible rfl | exact rfl | exact absurd ‹_› h | trace_state
theorem pfin_ok (l : List TypD) (hs : smTs l) (h : errS l = 0) : FnSound Tryz.prog 76 [.val true (schC l)] [] { vals := [(false, [.d (.sl 1 (dBools (posB (countsA countQ2 l))))]), (false, [.d (.v (.int .i64 0))])] } := by
 have hv := perr_fn l hs
 rw [h] at hv
 have hS : SchOk l := ⟨hs, errS_ok h⟩
 have hl := schema_few hS.ok
 have hc9 : (countsA countQ2 l).length = l.length := iter_len cntQ_ok l _
 refine startW (tm := [(0, _)]) Tryz.func76 rfl Tryz.ntmps76 rfl rfl rfl rfl ?_
 repeat' (first
 |(with_reducible refine K_ca 101 ?_); refine zC (hv) ?_
 |(with_reducible refine K_ca 102 ?_); refine zC (pcounts_fn l hS) ?_
 |(with_reducible refine blk_at (id := 0) ?_); (try (refine JL.zeroW 5 _ 4 1 rfl rfl ?_)); (refine JL.rekW 5 (1080, 651) rfl rfl rfl rfl ?_); ((with_reducible refine JL.loopW 0 699 (fun (k : Nat) tm => (16, .one false [.d (.v (.int .i64 ((k : Int))))]) :: (5, .one false [.own (1080, 651)]) :: tm) (fun (k : Nat) bo => ((1080, 651), some (.sl 4 1 ((dBools (posB ((countsA countQ2 l).take k)))))) :: bo) (fun (k : Nat) => k ≤ (countsA countQ2 l).length) (fun (k : Nat) => (countsA countQ2 l).length - k) (0) ?_ (fun k hk => have hpl := posB_len (countsA countQ2 l) k; ?_) ?_); (focus (apply SubW [((1080, 651), _)] rfl ?_ ?_ rfl ?_; (repeat' (first | exact kA | refine kB ?_ | refine kC ?_ ?_ | exact kD | fail)))))
 |((with_reducible refine round_next (i := k) (k + 1) ?_ ?_ ?_); (focus (apply SubW [((1080, 651), _)] rfl ?_ ?_ rfl ?_; (repeat' (first | exact kA | refine kB ?_ | refine kC ?_ ?_ | exact kD | fail)))))
 |refine wA ?_
 |(refine wC ?_ ?_ <;> intro hc)
 |refine wB ?_ ?_
 |(with_reducible refine JL.block ?_)
 |(with_reducible refine F_at ?_); refine eW (vs := [(_, _), (_, _)]) Tryz.results76 ?_; (focus (repeat' (first | exact oA | refine oB ?_ | refine oC ?_ ?_ | fail)))
 |exact oM
 |fail)
 all_goals first
  | with_reducible rfl
  | omega
  | (rw [posB_next (by omega)]; done)
  | (rw [List.take_of_length_le (by omega)]; done)
  | exact rfl
  | trace_state
theorem psound_10 {l : List TypD} (h : errS l = 0) {k : Nat} (hk : k < (posB (countsA countQ2 l)).length) (hc : (posB (countsA countQ2 l)).getD k false = false) : 10 = soundErr l := by
 obtain ⟨h1, h2⟩ := errS_def h
 have h3 : soundB (countsA countQ2 l) = false := by
  unfold soundB
  refine all_no (d := 0) (j := k) (by unfold posB at hk; rwa [List.length_map] at hk) ?_
  unfold posB at hk hc
  rw [List.length_map] at hk
  simpa [List.getD, hk] using hc
 rw [sound_eq cntQ_ok cntR_ok] at h3
 unfold soundErr
 rw [if_neg (not_not_intro h1), if_neg (not_not_intro h2), h3]; rfl
theorem psound_0 {l : List TypD} (h : errS l = 0) (hc : ∀ k, k < (posB (countsA countQ2 l)).length → (posB (countsA countQ2 l)).getD k false = true) : 0 = soundErr l := by
 obtain ⟨h1, h2⟩ := errS_def h
 have h3 : soundB (countsA countQ2 l) = true := by
  unfold soundB
  refine all_yes (d := 0) fun j hj => ?_
  have := hc j (by unfold posB; rwa [List.length_map])
  unfold posB at this
  simpa [List.getD, hj] using this
 rw [sound_eq cntQ_ok cntR_ok] at h3
 unfold soundErr
 rw [if_neg (not_not_intro h1), if_neg (not_not_intro h2), h3]; rfl
theorem psound_no (l : List TypD) (hs : smTs l) (h : ¬ errS l = 0) : FnSound Tryz.prog 57 [.val true (schC l)] [] { vals := [(false, [.d (.v (.int .i64 (soundErr l)))])] } := by
 rw [← sound_no h]
 refine startW (tm := [(0, _)]) Tryz.func57 rfl Tryz.ntmps57 rfl rfl rfl rfl ?_
 repeat' (first
 |(with_reducible refine K_ca 76 ?_); refine zC (pfin_no l hs h) ?_
 |refine wA ?_
 |(refine wC ?_ ?_ <;> intro hc)
 |refine wB ?_ ?_
 |(with_reducible refine JL.block ?_)
 |(with_reducible refine F_at ?_); refine eW (vs := [(_, _)]) Tryz.results57 ?_; (focus (repeat' (first | exact oA | refine oB ?_ | refine oC ?_ ?_ | fail)))
 |exact oM
 |fail)
 all_goals first | with_reducible rfl | exact absurd ‹_› h | trace_state
theorem psound_ok (l : List TypD) (hs : smTs l) (h : errS l = 0) : FnSound Tryz.prog 57 [.val true (schC l)] [] { vals := [(false, [.d (.v (.int .i64 (soundErr l)))])] } := by
 have hl := schema_few (errS_ok h)
 have hc9 : (posB (countsA countQ2 l)).length = l.length := by unfold posB; rw [List.length_map]; exact iter_len cntQ_ok l _
 refine startW (tm := [(0, _)]) Tryz.func57 rfl Tryz.ntmps57 rfl rfl rfl rfl ?_
 repeat' (first
 |(with_reducible refine K_ca 76 ?_); refine zC (pfin_ok l hs h) ?_
 |(with_reducible refine blk_at (id := 0) ?_); ((with_reducible refine JL.loopW 0 599 (fun (k : Nat) tm => (17, .one false [.d (.v (.int .i64 ((k : Int))))]) :: tm) (fun (k : Nat) bo => bo) (fun (k : Nat) => k ≤ (posB (countsA countQ2 l)).length ∧ ∀ j, j < k → (posB (countsA countQ2 l)).getD j false = true) (fun (k : Nat) => (posB (countsA countQ2 l)).length - k) (0) ?_ (fun k hk => ?_) ?_); (focus (apply SubW [] rfl ?_ ?_ rfl ?_; (repeat' (first | exact kA | refine kB ?_ | refine kC ?_ ?_ | exact kD | fail)))))
 |((with_reducible refine round_next (i := k) (k + 1) ?_ ?_ ?_); (focus (apply SubW [] rfl ?_ ?_ rfl ?_; (repeat' (first | exact kA | refine kB ?_ | refine kC ?_ ?_ | exact kD | fail)))))
 |refine wA ?_
 |(refine wC ?_ ?_ <;> intro hc)
 |refine wB ?_ ?_
 |(with_reducible refine JL.block ?_)
 |(with_reducible refine F_at ?_); refine eW (vs := [(_, _)]) Tryz.results57 ?_; (focus (repeat' (first | exact oA | refine oB ?_ | refine oC ?_ ?_ | fail)))
 |exact oM
 |fail)
 all_goals first
  | with_reducible rfl
  | omega
  | exact ⟨Nat.zero_le _, fun j hj => absurd hj (Nat.not_lt_zero j)⟩
  | exact ⟨by omega, lt_next hk.2 (nf hc)⟩
  | exact psound_10 h (k := k) (by omega) (nt hc)
  | exact psound_0 h (fun j hj => hk.2 j (by omega))
  | trace_state
theorem psound_fn (l : List TypD) (hs : smTs l) : FnSound Tryz.prog 57 [.val true (schC l)] [] { vals := [(false, [.d (.v (.int .i64 (soundErr l)))])] } := by
 by_cases h : errS l = 0
 ·exact psound_ok l hs h
 ·exact psound_no l hs h
end Go.Proofs.YtjpdemikmdfonaaGreatDoor

