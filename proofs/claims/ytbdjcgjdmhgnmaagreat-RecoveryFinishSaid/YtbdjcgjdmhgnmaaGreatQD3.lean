/- Rules of runs and contracts of functions, for the claims of one seat. -/
import Derived.Test.YtbdjcgjdmhgnmaaGreatQA12
import Derived.Test.YtbdjcgjdmhgnmaaGreatQA14
import Derived.Test.YtbdjcgjdmhgnmaaGreatQA15
import Derived.Test.YtbdjcgjdmhgnmaaGreatQA26
import Derived.Test.YtbdjcgjdmhgnmaaGreatQA28
import Derived.Test.YtbdjcgjdmhgnmaaGreatQD1
import Derived.Test.YtbdjcgjdmhgnmaaGreatQD2
namespace Go.Proofs.YtbdjcgjdmhgnmaaGreat
open Go Go.RowKit
set_option maxRecDepth 100000
set_option maxHeartbeats 8000000
set_option linter.unusedSimpArgs false
set_option linter.unusedVariables false
theorem cnan_fn (x : Int) : FnSound Tryz.prog 162 [.val false [.d (.v (.int .i64 x))]] [] { vals := [(false, [.d (.v (.bool false))])] } := by
 refine startW (tm := [(0, _)]) Tryz.func162 rfl Tryz.ntmps162 rfl rfl rfl rfl ?_
 repeat' (first
 |refine wA ?_
 |(refine wC ?_ ?_ <;> intro hc)
 |refine wB ?_ ?_
 |(with_reducible refine JL.block ?_)
 |(with_reducible refine F_at ?_); refine eW (vs := [(_, _)]) Tryz.results162 ?_; (focus (repeat' (first | exact oA | refine oB ?_ | refine oC ?_ ?_ | fail)))
 |exact oM
 |fail)
 all_goals simp
theorem cnan8_fn (x : Int) : FnSound Tryz.prog 163 [.val false [.d (.v (.int .u8 x))]] [] { vals := [(false, [.d (.v (.bool false))])] } := by
 refine startW (tm := [(0, _)]) Tryz.func163 rfl Tryz.ntmps163 rfl rfl rfl rfl ?_
 repeat' (first
 |refine wA ?_
 |(refine wC ?_ ?_ <;> intro hc)
 |refine wB ?_ ?_
 |(with_reducible refine JL.block ?_)
 |(with_reducible refine F_at ?_); refine eW (vs := [(_, _)]) Tryz.results163 ?_; (focus (repeat' (first | exact oA | refine oB ?_ | refine oC ?_ ?_ | fail)))
 |exact oM
 |fail)
 all_goals simp
theorem ccmpI_fn (x y : Int) : FnSound Tryz.prog 139 [.val false [.d (.v (.int .i64 x))], .val false [.d (.v (.int .i64 y))]] [] { vals := [(false, [.d (.v (.int .i64 (cmp1 x y)))])] } := by
 refine startW (tm := [(0, _), (1, _)]) Tryz.func139 rfl Tryz.ntmps139 rfl rfl rfl rfl ?_
 repeat' (first
 |(with_reducible refine K_ca 162 ?_); (first
 |refine zC (cnan_fn x) ?_
 |refine zC (cnan_fn y) ?_)
 |refine wA ?_
 |(refine wC ?_ ?_ <;> intro hc)
 |refine wB ?_ ?_
 |(with_reducible refine JL.block ?_)
 |(with_reducible refine F_at ?_); refine eW (vs := [(_, _)]) Tryz.results139 ?_; (focus (repeat' (first | exact oA | refine oB ?_ | refine oC ?_ ?_ | fail)))
 |exact oM
 |fail)
 all_goals (unfold cmp1; first | (rw [if_pos (by omega)]; done) | (rw [if_neg (by omega), if_pos (by omega)]; done) | (rw [if_neg (by omega), if_neg (by omega)]; done))
theorem ccmpS_fn (x y : Int) : FnSound Tryz.prog 140 [.val false [.d (.v (.int .u8 x))], .val false [.d (.v (.int .u8 y))]] [] { vals := [(false, [.d (.v (.int .i64 (cmp1 x y)))])] } := by
 refine startW (tm := [(0, _), (1, _)]) Tryz.func140 rfl Tryz.ntmps140 rfl rfl rfl rfl ?_
 repeat' (first
 |(with_reducible refine K_ca 163 ?_); (first
 |refine zC (cnan8_fn x) ?_
 |refine zC (cnan8_fn y) ?_)
 |refine wA ?_
 |(refine wC ?_ ?_ <;> intro hc)
 |refine wB ?_ ?_
 |(with_reducible refine JL.block ?_)
 |(with_reducible refine F_at ?_); refine eW (vs := [(_, _)]) Tryz.results140 ?_; (focus (repeat' (first | exact oA | refine oB ?_ | refine oC ?_ ?_ | fail)))
 |exact oM
 |fail)
 all_goals (unfold cmp1; first | (rw [if_pos (by omega)]; done) | (rw [if_neg (by omega), if_pos (by omega)]; done) | (rw [if_neg (by omega), if_neg (by omega)]; done))
theorem cmq_at {a b : List Int} {k : Nat} (ha : k < a.length) (hb : k < b.length) : cmpL (a.drop k) (b.drop k) = if ¬ cmp1 (a.getD k 0) (b.getD k 0) = 0 then cmp1 (a.getD k 0) (b.getD k 0) else cmpL (a.drop (k + 1)) (b.drop (k + 1)) := by
 rw [List.drop_eq_getElem_cons ha, List.drop_eq_getElem_cons hb, List.getD_eq_getElem?_getD, List.getD_eq_getElem?_getD, List.getElem?_eq_getElem ha, List.getElem?_eq_getElem hb]
 simp only [Option.getD_some, cmpL, cmp1]
 by_cases h1 : a[k] < b[k]
 ·simp [h1]
 ·by_cases h2 : b[k] < a[k]
  ·simp [h1, h2]
  ·simp [h1, h2]
theorem cmq_end {a b : List Int} {k : Nat} (ha : a.length ≤ k) (hk : k ≤ b.length) (hk' : k ≤ a.length) : cmpL (a.drop k) (b.drop k) = if a.length < b.length then -1 else 0 := by
 have e : k = a.length := by omega
 subst e
 rw [List.drop_of_length_le (Nat.le_refl _)]
 by_cases h : a.length < b.length
 ·rw [List.drop_eq_getElem_cons h, if_pos h]; rfl
 ·rw [List.drop_of_length_le (by omega), if_neg h]; rfl
theorem cmq_more {a b : List Int} {k : Nat} (ha : k < a.length) (hb : b.length ≤ k) : cmpL (a.drop k) (b.drop k) = 1 := by
 rw [List.drop_eq_getElem_cons ha, List.drop_of_length_le hb]; rfl
theorem scmpI_fn (a b : List Int) (ha : a.length ≤ 1000) (hb : b.length ≤ 1000) : FnSound Tryz.prog 102 [.val false [.d (.sl 1 (dInts a))], .val false [.d (.sl 1 (dInts b))]] [] { vals := [(false, [.d (.v (.int .i64 (cmpL a b)))])] } := by
 refine startW (tm := [(0, _), (1, _)]) Tryz.func102 rfl Tryz.ntmps102 rfl rfl rfl rfl ?_
 repeat' (first
 |(with_reducible refine K_ca 139 ?_); refine zC (ccmpI_fn (a.getD k 0) (b.getD k 0)) ?_
 |(with_reducible refine blk_at (id := 0) ?_); ((with_reducible refine JL.loopW 0 299 (fun (k : Nat) tm => (11, .one false [.d (.v (.int .i64 ((k : Int))))]) :: tm) (fun (k : Nat) bo => bo) (fun (k : Nat) => k ≤ a.length ∧ k ≤ b.length ∧ cmpL (a.drop k) (b.drop k) = cmpL a b) (fun (k : Nat) => a.length - k) (0) ?_ (fun k hk => ?_) ?_); (focus (apply SubW [] rfl ?_ ?_ rfl ?_; (repeat' (first | exact kA | refine kB ?_ | refine kC ?_ ?_ | exact kD | fail)))))
 |((with_reducible refine round_next (i := k) (k + 1) ?_ ?_ ?_); (focus (apply SubW [] rfl ?_ ?_ rfl ?_; (repeat' (first | exact kA | refine kB ?_ | refine kC ?_ ?_ | exact kD | fail)))))
 |refine wA ?_
 |(refine wC ?_ ?_ <;> intro hc)
 |refine wB ?_ ?_
 |(with_reducible refine JL.block ?_)
 |(with_reducible refine F_at ?_); refine eW (vs := [(_, _)]) Tryz.results102 ?_; (focus (repeat' (first | exact oA | refine oB ?_ | refine oC ?_ ?_ | fail)))
 |exact oM
 |fail)
 all_goals first
  | exact ⟨Nat.zero_le _, Nat.zero_le _, rfl⟩
  | (rw [← hk.2.2, cmq_more (by omega) (by omega)]; done)
  | (rw [← hk.2.2, cmq_at (by omega) (by omega), if_pos hc]; done)
  | exact ⟨by omega, by omega, ((cmq_at (by omega) (by omega)).trans (if_neg (fun b => b hc))).symm.trans hk.2.2⟩
  | (rw [← hk.2.2, cmq_end (by omega) (by omega) (by omega), if_pos (by omega)]; done)
  | (rw [← hk.2.2, cmq_end (by omega) (by omega) (by omega), if_neg (by omega)]; done)
  | trace_state
theorem scmpS_fn (a b : List Int) (ha : a.length ≤ 1000) (hb : b.length ≤ 1000) : FnSound Tryz.prog 103 [.val false [.d (.sl 1 (dSets a))], .val false [.d (.sl 1 (dSets b))]] [] { vals := [(false, [.d (.v (.int .i64 (cmpL a b)))])] } := by
 refine startW (tm := [(0, _), (1, _)]) Tryz.func103 rfl Tryz.ntmps103 rfl rfl rfl rfl ?_
 repeat' (first
 |(with_reducible refine K_ca 140 ?_); refine zC (ccmpS_fn (a.getD k 0) (b.getD k 0)) ?_
 |(with_reducible refine blk_at (id := 0) ?_); ((with_reducible refine JL.loopW 0 299 (fun (k : Nat) tm => (11, .one false [.d (.v (.int .i64 ((k : Int))))]) :: tm) (fun (k : Nat) bo => bo) (fun (k : Nat) => k ≤ a.length ∧ k ≤ b.length ∧ cmpL (a.drop k) (b.drop k) = cmpL a b) (fun (k : Nat) => a.length - k) (0) ?_ (fun k hk => ?_) ?_); (focus (apply SubW [] rfl ?_ ?_ rfl ?_; (repeat' (first | exact kA | refine kB ?_ | refine kC ?_ ?_ | exact kD | fail)))))
 |((with_reducible refine round_next (i := k) (k + 1) ?_ ?_ ?_); (focus (apply SubW [] rfl ?_ ?_ rfl ?_; (repeat' (first | exact kA | refine kB ?_ | refine kC ?_ ?_ | exact kD | fail)))))
 |refine wA ?_
 |(refine wC ?_ ?_ <;> intro hc)
 |refine wB ?_ ?_
 |(with_reducible refine JL.block ?_)
 |(with_reducible refine F_at ?_); refine eW (vs := [(_, _)]) Tryz.results103 ?_; (focus (repeat' (first | exact oA | refine oB ?_ | refine oC ?_ ?_ | fail)))
 |exact oM
 |fail)
 all_goals first
  | exact ⟨Nat.zero_le _, Nat.zero_le _, rfl⟩
  | (rw [← hk.2.2, cmq_more (by omega) (by omega)]; done)
  | (rw [← hk.2.2, cmq_at (by omega) (by omega), if_pos hc]; done)
  | exact ⟨by omega, by omega, ((cmq_at (by omega) (by omega)).trans (if_neg (fun b => b hc))).symm.trans hk.2.2⟩
  | (rw [← hk.2.2, cmq_end (by omega) (by omega) (by omega), if_pos (by omega)]; done)
  | (rw [← hk.2.2, cmq_end (by omega) (by omega) (by omega), if_neg (by omega)]; done)
  | trace_state
theorem cor3 {x y z : Int} {k : Nat} (hk : k < 3) (h : ∀ j, j < k → [x, y, z].getD j 0 = 0) (hn : ¬ [x, y, z].getD k 0 = 0) : [x, y, z].getD k 0 = if ¬ x = 0 then x else if ¬ y = 0 then y else z := by
 match k, hk, h, hn with
 | 0, _, _, hn => exact (if_pos hn).symm
 | 1, _, h, hn => rw [if_neg (fun b => b (h 0 (by omega)))]; exact (if_pos hn).symm
 | 2, _, h, hn => rw [if_neg (fun b => b (h 0 (by omega))), if_neg (fun b => b (h 1 (by omega)))]; rfl
theorem cor_fn (x y z : Int) : FnSound Tryz.prog 101 [.val false [.d (.sl 1 (dInts [x, y, z]))]] [] { vals := [(false, [.d (.v (.int .i64 (if ¬ x = 0 then x else if ¬ y = 0 then y else z)))])] } := by
 have hlen : [x, y, z].length = 3 := rfl
 refine startW (tm := [(0, _)]) Tryz.func101 rfl Tryz.ntmps101 rfl rfl rfl rfl ?_
 repeat' (first
 |(with_reducible refine blk_at (id := 0) ?_); ((with_reducible refine JL.loopW 0 399 (fun (k : Nat) tm => (8, .one false [.d (.v (.int .i64 ((k : Int))))]) :: tm) (fun (k : Nat) bo => bo) (fun (k : Nat) => k ≤ 3 ∧ ∀ j, j < k → [x, y, z].getD j 0 = 0) (fun (k : Nat) => 3 - k) (0) ?_ (fun k hk => ?_) ?_); (focus (apply SubW [] rfl ?_ ?_ rfl ?_; (repeat' (first | exact kA | refine kB ?_ | refine kC ?_ ?_ | exact kD | fail)))))
 |((with_reducible refine round_next (i := k) (k + 1) ?_ ?_ ?_); (focus (apply SubW [] rfl ?_ ?_ rfl ?_; (repeat' (first | exact kA | refine kB ?_ | refine kC ?_ ?_ | exact kD | fail)))))
 |refine wA ?_
 |(refine wC ?_ ?_ <;> intro hc)
 |refine wB ?_ ?_
 |(with_reducible refine JL.block ?_)
 |(with_reducible refine F_at ?_); refine eW (vs := [(_, _)]) Tryz.results101 ?_; (focus (repeat' (first | exact oA | refine oB ?_ | refine oC ?_ ?_ | fail)))
 |exact oM
 |fail)
 all_goals first
  | exact ⟨Nat.zero_le _, fun j hj => absurd hj (Nat.not_lt_zero j)⟩
  | exact cor3 (by omega) hk.2 hc
  | (refine ⟨by omega, fun j hj => ?_⟩; by_cases e : j = k; (subst e; exact hc); exact hk.2 j (by omega))
  | (have h0 : x = 0 := hk.2 0 (by omega); have h1 : y = 0 := hk.2 1 (by omega); have h2 : z = 0 := hk.2 2 (by omega); rw [h0, h1, h2]; rfl)
  | trace_state
theorem pcmpM_fn (m n : MixD) (hm : m.base.length ≤ 1000 ∧ m.next.length ≤ 1000 ∧ m.held.length ≤ 1000) (hn : n.base.length ≤ 1000 ∧ n.next.length ≤ 1000 ∧ n.held.length ≤ 1000) : FnSound Tryz.prog 54 [.val true (mixC m), .val true (mixC n)] [] { vals := [(false, [.d (.v (.int .i64 (cmpM m n)))])] } := by
 refine startW (tm := [(0, _), (1, _)]) Tryz.func54 rfl Tryz.ntmps54 rfl rfl rfl rfl ?_
 repeat' (first
 |(with_reducible refine K_ca 102 ?_); (first
 |refine zC (scmpI_fn m.base n.base hm.1 hn.1) ?_
 |refine zC (scmpI_fn m.next n.next hm.2.1 hn.2.1) ?_)
 |(with_reducible refine K_ca 103 ?_); refine zC (scmpS_fn m.held n.held hm.2.2 hn.2.2) ?_
 |(with_reducible refine K_ca 101 ?_); refine zC (cor_fn (cmpL m.base n.base) (cmpL m.next n.next) (cmpL m.held n.held)) ?_
 |refine wA ?_
 |(refine wC ?_ ?_ <;> intro hc)
 |refine wB ?_ ?_
 |(with_reducible refine JL.block ?_)
 |(with_reducible refine F_at ?_); refine eW (vs := [(_, _)]) Tryz.results54 ?_; (focus (repeat' (first | exact oA | refine oB ?_ | refine oC ?_ ?_ | fail)))
 |exact oM
 |fail)
 all_goals first | rfl | trace_state
end Go.Proofs.YtbdjcgjdmhgnmaaGreat

namespace Go.Proofs.YtbdjcgjdmhgnmaaGreat
open Go Go.RowKit
set_option maxRecDepth 100000
set_option maxHeartbeats 8000000
set_option linter.unusedSimpArgs false
set_option linter.unusedVariables false
theorem qclonedD_fn (m : MixD) (hf : m.base.length ≤ 12 ∧ m.next.length ≤ 12 ∧ m.held.length ≤ 12) : FnSound Tryz.prog 138 [.val true (mixC m)] [] { vals := [(true, mixC m)] } := by
 refine startW (tm := [(0, _)]) Tryz.func138 rfl Tryz.ntmps138 rfl rfl rfl rfl ?_
 repeat' (first
 |(with_reducible refine K_ca 90 ?_); (first
 |refine zS (cloneInts_fn m.base (by omega)) ?_
 |refine zS (cloneInts_fn m.next (by omega)) ?_)
 |(with_reducible refine K_ca 91 ?_); refine zS (cloneSets_fn m.held (by omega)) ?_
 |refine wA ?_
 |(refine wC ?_ ?_ <;> intro hc)
 |refine wB ?_ ?_
 |(with_reducible refine JL.block ?_)
 |(with_reducible refine F_at ?_); refine eW (vs := [(_, _)]) Tryz.results138 ?_; (focus (repeat' (first | exact oA | refine oB ?_ | refine oC ?_ ?_ | fail)))
 |exact oM
 |fail)
 all_goals first | rfl | trace_state
theorem take1 {α : Type} {l : List α} {d : α} (h : 0 < l.length) : l.take 1 = [l.getD 0 d] := by
 cases l with
 | nil => simp at h
 | cons x r => rfl
theorem psrun_fn (p : Prob) (l : List StepD) (hp : PlanOK p l) (hv : PlanV p l) (hl : l.length ≤ 1000000) : FnSound Tryz.prog 99 [.val true (probC p), .val true (mixC (startM p)), .val false [.d (.sl 3 (dSteps l))]] [] { vals := [(false, [.d (.sl 3 (dMixes (mixesP p l)))]), (false, [.d (.v (.int .i64 l.length))]), (false, [.d (.v (.int .i64 0))])] } := by
 have hln := hp.len
 have hg := start_g hp.vp
 have hvp := vp_all hp.vp
 have hlb := hg.inn.lb
 have hlx := hg.inn.ln
 have hlh := hg.inn.lh
 have hcl := qclonedD_fn (startM p) (by omega)
 have hq : ∀ k, k < l.length → FnSound Tryz.prog 132 [.val true (probC p), .val true (mixC (((mixesP p l).take (k + 1)).getD k nilM)), .val true (stepC (l.getD k nilS))] [] { vals := [(true, mixC ((mixesP p l).getD (k + 1) nilM)), (false, [.d (.v (.int .i64 0))])] } := fun k hk => by
  have e : ((mixesP p l).take (k + 1)).getD k nilM = (mixesP p l).getD k nilM := by rw [List.getD_eq_getElem?_getD, List.getElem?_take_of_lt (by omega), ← List.getD_eq_getElem?_getD]
  have := qap_fn p ((mixesP p l).getD k nilM) (l.getD k nilS) (hv.valid (by omega)) (hp.g (by omega)).u
  rw [(hp.step hk).2.2] at this
  rw [e]; exact this
 have e0 : (mixesP p l).getD 0 nilM = startM p := by rw [hp.mix, tr_0]
 have e1 : (mixesP p l).take 1 = [startM p] := by rw [take1 (d := nilM) (by omega), e0]
 have e2 : ∀ k, (mixesP p l).length ≤ k + 1 → (mixesP p l).take (k + 1) = mixesP p l := fun k hk => List.take_of_length_le hk
 have hl2 : ∀ k, k ≤ l.length → ((mixesP p l).take (k + 1)).length = k + 1 := fun k hk => by rw [List.length_take]; omega
 refine startW (tm := [(0, _), (1, _), (2, _)]) Tryz.func99 rfl Tryz.ntmps99 rfl rfl rfl rfl ?_
 repeat' (first
 |(with_reducible refine K_ca 131 ?_); refine zC (pmixValidOK_fn hg.u (start_err hp.vp)) ?_
 |(with_reducible refine K_ca 138 ?_); refine zC (hcl) ?_
 |(with_reducible refine K_ca 132 ?_); refine zC (hq k (by omega)) ?_
 |(with_reducible refine blk_at (id := 0) ?_); (try (refine JL.zeroW 10 _ 42 3 rfl rfl ?_)); (refine JL.rekW 10 (1160, 651) rfl rfl rfl rfl ?_); ((with_reducible refine JL.loopW 0 699 (fun (k : Nat) tm => (26, .one false [.d (.v (.int .i64 ((k : Int))))]) :: (10, .one false [.own (1160, 651)]) :: tm) (fun (k : Nat) bo => ((1160, 651), some (.sl 42 3 ((dMixes ((mixesP p l).take (k + 1)))))) :: bo) (fun (k : Nat) => k ≤ l.length) (fun (k : Nat) => l.length - k) (0) ?_ (fun k hk => have h2 := hl2 k hk; ?_) ?_); (focus (apply SubW [((1160, 651), _)] rfl ?_ ?_ rfl ?_; (repeat' (first | exact kA | refine kB ?_ | refine kC ?_ ?_ | exact kD | fail)))))
 |((with_reducible refine round_next (i := k) (k + 1) ?_ ?_ ?_); (focus (apply SubW [((1160, 651), _)] rfl ?_ ?_ rfl ?_; (repeat' (first | exact kA | refine kB ?_ | refine kC ?_ ?_ | exact kD | fail)))))
 |refine wA ?_
 |(refine wC ?_ ?_ <;> intro hc)
 |refine wB ?_ ?_
 |(with_reducible refine JL.block ?_)
 |(with_reducible refine F_at ?_); refine eW (vs := [(_, _), (_, _), (_, _)]) Tryz.results99 ?_; (focus (repeat' (first | exact oA | refine oB ?_ | refine oC ?_ ?_ | fail)))
 |exact oM
 |fail)
 all_goals first
  | rfl
  | (exfalso; omega)
  | (rw [e1]; rfl)
  | (rw [take_snoc (by omega)]; done)
  | (rw [← take_snoc (d := nilM) (by omega)]; done)
  | (rw [e2 _ (by omega)]; done)
  | trace_state
def scC (p : Prob) (l : List StepD) : List C := [.d (.sl 1 (dInts p.vs)), .d (.sl 1 (dInts p.now)), .d (.sl 1 (dInts p.tgt)), .d (.sl 6 (dTabs p.tabs)), .d (.sl 3 (dSteps l)), .d (.sl 3 (dMixes (mixesP p l)))]
theorem pscript_fn (p : Prob) (l : List StepD) (h : vpErr p = 0) (hc : checkP p l = true) (hl : l.length ≤ 1000000) : FnSound Tryz.prog 50 [.val true (probC p), .val false [.d (.sl 3 (dSteps l))]] [] { vals := [(true, scC p l), (false, [.d (.v (.int .i64 0))])] } := by
 have hk := pcheck_fn p l h hl
 rw [hc] at hk
 have hr := psrun_fn p l (planOK_of h (start_err h) hc) (planV_of h hc) hl
 refine startW (tm := [(0, _), (1, _)]) Tryz.func50 rfl Tryz.ntmps50 rfl rfl rfl rfl ?_
 repeat' (first
 |(with_reducible refine K_ca 96 ?_); refine zC (pvpOK_fn h) ?_
 |(with_reducible refine K_ca 56 ?_); refine zC (hk) ?_
 |(with_reducible refine K_ca 57 ?_); refine zC (pstart_fn p h) ?_
 |(with_reducible refine K_ca 99 ?_); refine zC (hr) ?_
 |refine wA ?_
 |(refine wC ?_ ?_ <;> intro hc)
 |refine wB ?_ ?_
 |(with_reducible refine JL.block ?_)
 |(with_reducible refine F_at ?_); refine eW (vs := [(_, _), (_, _)]) Tryz.results50 ?_; (focus (repeat' (first | exact oA | refine oB ?_ | refine oC ?_ ?_ | fail)))
 |exact oM
 |fail)
 all_goals first | rfl | trace_state
theorem psab_fn (p : Prob) (l : List StepD) (a : Int) (hp : PlanOK p l) (hv : PlanV p l) (hl : l.length ≤ 1000000) (ha : 0 ≤ a ∧ a < l.length) (hk : (l.getD a.toNat nilS).kind = 1) : FnSound Tryz.prog 55 [.val true (scC p l), .val false [.d (.v (.int .i64 a))]] [] { vals := [(true, mixC (abortedP p l a))] } := by
 have hln := hp.len
 have hst := (hp.step (k := a.toNat) (by omega)).1
 have hsv := hst.svc (by omega)
 have hnn := hst.nn
 obtain ⟨s1, s2⟩ := abort_ok (p := p) (i := (l.getD a.toNat nilS).idx) ⟨hnn, hsv⟩
 have hap := apply_some (hv.valid (k := (a + 1).toNat) (by omega)) s1 s2 (hp.abort ha hk).2.2
 have hq := qapply_fn p ((mixesP p l).getD (a + 1).toNat nilM) ⟨4, (l.getD a.toNat nilS).idx, 0⟩ (hp.g (k := (a + 1).toNat) (by omega)).u
 rw [hap] at hq
 clear hap s1 s2 hst
 refine startW (tm := [(0, _), (1, _)]) Tryz.func55 rfl Tryz.ntmps55 rfl rfl rfl rfl ?_
 repeat' (first
 |(with_reducible refine K_ca 92 ?_); refine zC (hq) ?_
 |refine wA ?_
 |(refine wC ?_ ?_ <;> intro hc)
 |refine wB ?_ ?_
 |(with_reducible refine JL.block ?_)
 |(with_reducible refine F_at ?_); refine eW (vs := [(_, _)]) Tryz.results55 ?_; (focus (repeat' (first | exact oA | refine oB ?_ | refine oC ?_ ?_ | fail)))
 |exact oM
 |fail)
 all_goals first | rfl | trace_state
theorem psexpect_fn (p : Prob) (l : List StepD) (a ph : Int) (h : vpErr p = 0) (hc : checkP p l = true) (hl : l.length ≤ 1000000) : FnSound Tryz.prog 51 [.val true (scC p l), .val false [.d (.v (.int .i64 a))], .val false [.d (.v (.int .i64 ph))]] [] { vals := [(true, mixC (expectP p l a ph).1), (false, [.d (.v (.int .i64 (expectP p l a ph).2))])] } := by
 have hp := planOK_of h (start_err h) hc
 have hv := planV_of h hc
 have hln := hp.len
 have e : expectP p l a ph = if a < 0 ∨ l.length < a ∨ ¬ (ph = 6 ↔ a = l.length) then (nilM, 7)
     else if ph = 0 ∨ ph = 6 ∨ (ph = 1 ∧ kindP l a = 2) ∨ (ph = 4 ∧ kindP l a = 3) then ((mixesP p l).getD a.toNat nilM, 0)
     else if (ph = 1 ∨ ph = 2 ∨ ph = 3) ∧ kindP l a = 1 then ((mixesP p l).getD (a + 1).toNat nilM, 0)
     else if ph = 5 ∧ kindP l a = 1 then (abortedP p l a, 0)
     else (nilM, 7) := by unfold expectP; rw [if_neg (by simpa using h), if_neg (by rw [hc]; decide)]
 rw [e]
 clear e
 have hkl : a < l.length → kindP l a = (l.getD a.toNat nilS).kind := fun b => by unfold kindP; rw [if_pos b]
 generalize kindP l a = kk at hkl
 by_cases hr : a < 0 ∨ l.length < a ∨ ¬ (ph = 6 ↔ a = l.length)
 ·rw [if_pos hr]
  refine startW (tm := [(0, _), (1, _), (2, _)]) Tryz.func51 rfl Tryz.ntmps51 rfl rfl rfl rfl ?_
  repeat' (first
 |refine wA ?_
 |(refine wC ?_ ?_ <;> intro hc)
 |refine wB ?_ ?_
 |(with_reducible refine JL.block ?_)
 |(with_reducible refine F_at ?_); refine eW (vs := [(_, _), (_, _)]) Tryz.results51 ?_; (focus (repeat' (first | exact oA | refine oB ?_ | refine oC ?_ ?_ | fail)))
 |exact oM
 |fail)
  all_goals (first | rfl | (exfalso; grind) | trace_state)
 ·rw [if_neg hr]
  have h1 : 0 ≤ a := by omega
  have h2 : a ≤ l.length := by omega
  have h3 : ph = 6 → a = l.length := by omega
  have h4 : a = l.length → ph = 6 := by omega
  clear hr
  refine startW (tm := [(0, _), (1, _), (2, _)]) Tryz.func51 rfl Tryz.ntmps51 rfl rfl rfl rfl ?_
  repeat' (first
 |(with_reducible refine K_ca 55 ?_); refine zC (psab_fn p l a hp hv hl (by omega) (by omega)) ?_
 |refine wA ?_
 |(refine wC ?_ ?_ <;> intro hc)
 |refine wB ?_ ?_
 |(with_reducible refine JL.block ?_)
 |(with_reducible refine F_at ?_); refine eW (vs := [(_, _), (_, _)]) Tryz.results51 ?_; (focus (repeat' (first | exact oA | refine oB ?_ | refine oC ?_ ?_ | fail)))
 |exact oM
 |fail)
  all_goals (clear hp hv h; (repeat' split) <;> first | rfl | (exfalso; grind) | trace_state)
end Go.Proofs.YtbdjcgjdmhgnmaaGreat

namespace Go.Proofs.YtbdjcgjdmhgnmaaGreat
open Go Go.RowKit
set_option linter.unusedSimpArgs false
set_option linter.unusedVariables false
theorem next_neg {p : Prob} {rs : List Int} {c : CtlD} {s : SigD} (hs : s.token < 0) (ht : 0 ≤ c.token) : nextP p rs c s = nextP p rs c { s with token := 0 } := by
 by_cases hk : s.kind = 1
 ·unfold nextP
  rw [if_pos hk, if_pos (by omega), if_pos (show ({ s with token := 0 } : SigD).kind = 1 from hk), if_pos (show ({ s with token := 0 } : SigD).token ≤ c.token from ht)]
 ·unfold nextP
  rw [if_neg hk, if_neg (show ¬ ({ s with token := 0 } : SigD).kind = 1 from hk)]
  rfl
def sigAt (p : Prob) (rs : List Int) (c : CtlD) (l : List SigD) : Nat → CtlD × List ActD
 | 0 => (c, [])
 | k + 1 => ((nextP p rs (sigAt p rs c l k).1 (l.getD k nilG)).1, (sigAt p rs c l k).2 ++ (nextP p rs (sigAt p rs c l k).1 (l.getD k nilG)).2)
structure SigK (p : Prob) (rs : List Int) (l : List StepD) (y : CtlD) (n : Int) : Prop where
 ck : CtlK p y
 cr : CtlR p rs y
 b : CtlB y l n
theorem SigK.next {p : Prob} {rs : List Int} {l : List StepD} {y : CtlD} {n : Int} (h : SigK p rs l y n) (s : SigD) (hn : n ≤ 100000000) (hs : setErr p rs = 0) (hl : l.length ≤ 1000000) : SigK p rs l (nextP p rs y s).1 (n + 1) := by
 have hso := setErr_ok hs
 have hvp := vp_all hso.1
 have hb := h.b
 have hrd := hb.rd
 have hrp := hb.rp
 have htk := hb.tk
 have go : ∀ s : SigD, 0 ≤ s.token → SigK p rs l (nextP p rs y s).1 (n + 1) := fun s ht => ⟨h.ck.next (by rw [hb.plan]; exact hl), h.cr.next h.ck hs (by rw [hb.plan]; exact hl) (by omega) (by omega) ht, hb.next hn hso.2.2 (by omega) ht⟩
 by_cases ht : 0 ≤ s.token
 ·exact go s ht
 ·rw [next_neg (by omega) htk]
  exact go _ (by show (0 : Int) ≤ 0; decide)
theorem sigAt_k {p : Prob} {rs : List Int} {l : List StepD} {c : CtlD} {n : Int} {ss : List SigD} (h : SigK p rs l c n) (hn : 0 ≤ n ∧ n ≤ 10000000) (hs : setErr p rs = 0) (hl : l.length ≤ 1000000) : ∀ k : Nat, k ≤ 100 → SigK p rs l (sigAt p rs c ss k).1 (n + k) ∧ (sigAt p rs c ss k).2.length ≤ 2 * k
 | 0, _ => ⟨by simpa [sigAt] using h, by simp [sigAt]⟩
 | k + 1, hk => by
  obtain ⟨a1, a2⟩ := sigAt_k (ss := ss) h hn hs hl k (by omega)
  have a3 := a1.next (ss.getD k nilG) (by omega) hs hl
  have a4 := next_len (p := p) (rs := rs) (c := (sigAt p rs c ss k).1) (s := ss.getD k nilG)
  refine ⟨?_, ?_⟩
  ·show SigK p rs l (nextP p rs (sigAt p rs c ss k).1 (ss.getD k nilG)).1 (n + ((k + 1 : Nat) : Int))
   rw [show n + ((k + 1 : Nat) : Int) = n + (k : Int) + 1 by omega]
   exact a3
  ·show ((sigAt p rs c ss k).2 ++ _).length ≤ _
   rw [List.length_append]
   omega
theorem sigAt_1 {p : Prob} {rs : List Int} {c : CtlD} {s : SigD} : sigAt p rs c [s] 1 = ((nextP p rs c s).1, (nextP p rs c s).2) := by
 show ((nextP p rs c s).1, [] ++ (nextP p rs c s).2) = _
 rw [List.nil_append]
end Go.Proofs.YtbdjcgjdmhgnmaaGreat

namespace Go.Proofs.YtbdjcgjdmhgnmaaGreat
open Go Go.RowKit
set_option maxRecDepth 100000
set_option maxHeartbeats 8000000
set_option linter.unusedSimpArgs false
set_option linter.unusedVariables false
theorem pbegan_fn (ph : Int) : FnSound Tryz.prog 53 [.val false [.d (.v (.int .i64 ph))]] [] { vals := [(false, [.d (.v (.int .i64 (extraP ph)))])] } := by
 refine startW (tm := [(0, _)]) Tryz.func53 rfl Tryz.ntmps53 rfl rfl rfl rfl ?_
 repeat' (first
 |refine wA ?_
 |(refine wC ?_ ?_ <;> intro hc)
 |refine wB ?_ ?_
 |(with_reducible refine JL.block ?_)
 |(with_reducible refine F_at ?_); refine eW (vs := [(_, _)]) Tryz.results53 ?_; (focus (repeat' (first | exact oA | refine oB ?_ | refine oC ?_ ?_ | fail)))
 |exact oM
 |fail)
 all_goals (unfold extraP; (repeat' split) <;> first | rfl | (exfalso; omega) | trace_state)
theorem pfits_fn (p : Prob) (rs : List Int) (c : CtlD) (h : CtlK p c) (hr : CtlR p rs c) (hs : setErr p rs = 0) (hl : c.plan.length ≤ 1000000) (hrp : -1000000000 ≤ c.replica ∧ c.replica ≤ 1000000000) : FnSound Tryz.prog 52 [.val false [.d (.sl 1 (dInts rs))], .val true (ctlC c)] [] { vals := [(false, [.d (.v (.bool true))])] } := by
 have hso := setErr_ok hs
 have hvp := vp_all hso.1
 have hrl := hso.2.1
 have h0 := fun b => (⟨h.rng.1, h.lt b⟩ : 0 ≤ c.at_ ∧ c.at_ < c.plan.length)
 have hk1 := h.ph1
 have hk2 := h.ph2
 have hid := hr.idle
 have hbz := hr.busy
 have hsm := hr.some_
 have hi : c.phase = 1 ∨ c.phase = 2 ∨ c.phase = 3 → 0 ≤ (present c).idx ∧ (present c).idx < p.vs.length := fun b => by
  have := h.svc (by omega) (by rcases b with b | b | b; (rcases hk1 b with x | x <;> omega); (have := (hk2 (.inl b)).1; omega); (have := (hk2 (.inr b)).1; omega))
  omega
 have hfr := fun b => cfirst_fn rs (present c).idx b hso.2.2 (by omega)
 have hfg := fun b => fr_get hso.2.2 (by omega) (i := (present c).idx) b
 have hkk : c.phase = 1 → (present c).kind = 1 ∨ (present c).kind = 2 := fun b => by rcases hk1 b with x | x <;> omega
 have hkk2 : c.phase = 2 ∨ c.phase = 3 → (present c).kind = 1 := fun b => (hk2 b).1
 by_cases hb : c.phase = 1 ∨ c.phase = 2 ∨ c.phase = 3
 ·have h0 := h0 (by omega)
  have hi := hi hb
  have hfr := hfr (by omega)
  have hfg := hfg (by omega)
  unfold present at hi hfr hfg hbz hsm hkk hkk2
  clear h hr hs hso hk1 hk2
  refine startW (tm := [(0, _), (1, _)]) Tryz.func52 rfl Tryz.ntmps52 rfl rfl rfl rfl ?_
  repeat' (first
 |(with_reducible refine K_ca 100 ?_); refine zC (hfr) ?_
 |refine wA ?_
 |(refine wC ?_ ?_ <;> intro hc)
 |refine wB ?_ ?_
 |(with_reducible refine JL.block ?_)
 |(with_reducible refine F_at ?_); refine eW (vs := [(_, _)]) Tryz.results52 ?_; (focus (repeat' (first | exact oA | refine oB ?_ | refine oC ?_ ?_ | fail)))
 |exact oM
 |fail)
  all_goals first | rfl | (exfalso; omega) | (exact decide_eq_true (by omega)) | (exact (decide_eq_true (by omega)).symm) | trace_state
 ·have hid := hid hb
  clear hfr hfg h hr hs hso hk1 hk2 hi hbz hsm
  refine startW (tm := [(0, _), (1, _)]) Tryz.func52 rfl Tryz.ntmps52 rfl rfl rfl rfl ?_
  repeat' (first
 |refine wA ?_
 |(refine wC ?_ ?_ <;> intro hc)
 |refine wB ?_ ?_
 |(with_reducible refine JL.block ?_)
 |(with_reducible refine F_at ?_); refine eW (vs := [(_, _)]) Tryz.results52 ?_; (focus (repeat' (first | exact oA | refine oB ?_ | refine oC ?_ ?_ | fail)))
 |exact oM
 |fail)
  all_goals first | rfl | (exfalso; omega) | (exact decide_eq_true (by omega)) | trace_state
theorem cmpM_self (m : MixD) : cmpM m m = 0 := cmpM_zero.2 rfl
theorem few_of {p : Prob} {m : MixD} (h : MixG p m) : m.base.length ≤ 1000 ∧ m.next.length ≤ 1000 ∧ m.held.length ≤ 1000 := by
 have hvp := vp_all h.inn.vp
 have h1 := h.inn.lb
 have h2 := h.inn.ln
 have h3 := h.inn.lh
 omega
theorem pvalid_fn (p : Prob) (rs : List Int) (c : CtlD) (h : CtlK p c) (hr : CtlR p rs c) (hs : setErr p rs = 0) (hc : checkP p c.plan = true) (hl : c.plan.length ≤ 1000000) (hrd : -1000000000 ≤ c.round ∧ c.round ≤ 1000000000) (hrp : -1000000000 ≤ c.replica ∧ c.replica ≤ 1000000000) : FnSound Tryz.prog 24 [.val true (probC p), .val false [.d (.sl 1 (dInts rs))], .val true (ctlC c)] [] { vals := [(false, [.d (.v (.bool true))])] } := by
 have hso := setErr_ok hs
 have hvp := vp_all hso.1
 have hv := planV_of hso.1 hc
 have hrl := hso.2.1
 have hst := psetting_fn p rs (by omega)
 rw [hs] at hst
 have hsc := pscript_fn p c.plan hso.1 hc hl
 have hex := psexpect_fn p c.plan c.at_ c.phase hso.1 hc hl
 obtain ⟨ek0, ek1⟩ := expect_K h hc
 have hft := pfits_fn p rs c h hr hs hl hrp
 have hbg := pbegan_fn c.phase
 have hat := h.rng
 have hbm := few_of h.g
 have htk := hr.tk
 have hlt := fun b => h.lt b
 have hfin := h.fin
 obtain ⟨q, q0, q1, q2⟩ := hr.rest
 have hx : 0 ≤ extraP c.phase ∧ extraP c.phase ≤ 2 := by unfold extraP; (repeat' split) <;> omega
 have htm : (c.round - 2 * c.at_ - extraP c.phase).tmod 3 = 0 := by rw [show c.round - 2 * c.at_ - extraP c.phase = 3 * q by omega]; exact Int.mul_tmod_right 3 q
 have hself := pcmpM_fn c.mix c.mix hbm hbm
 rw [cmpM_self] at hself
 generalize extraP c.phase = x at hx htm q1 hbg
 by_cases hm : c.phase = 0 ∧ ¬ c.mix = (mixesP p c.plan).getD c.at_.toNat nilM
 ·rw [ek0 hm.1] at hex
  have hk := (h.ph0 hm.1).resolve_left hm.2
  have hq := (q2 hm.1).resolve_left hm.2
  have hcm := pcmpM_fn c.mix ((mixesP p c.plan).getD c.at_.toNat nilM) hbm (few_of (h.plan.g (by omega)))
  have hne : ¬ cmpM c.mix ((mixesP p c.plan).getD c.at_.toNat nilM) = 0 := fun b => hm.2 (cmpM_zero.1 b)
  have hab := psab_fn p c.plan c.at_ h.plan hv hl ⟨hat.1, hlt (by omega)⟩ hk.1
  rw [← hk.2] at hab
  have hlt := hlt (by omega)
  have hkk : (c.plan.getD c.at_.toNat nilS).kind = 1 := hk.1
  generalize cmpM c.mix ((mixesP p c.plan).getD c.at_.toNat nilM) = cv at hcm hne
  clear h hr hs hc hso hv hk
  refine startW (tm := [(0, _), (1, _), (2, _)]) Tryz.func24 rfl Tryz.ntmps24 rfl rfl rfl rfl ?_
  repeat' (first
 |(with_reducible refine K_ca 49 ?_); refine zC (hst) ?_
 |(with_reducible refine K_ca 50 ?_); refine zC (hsc) ?_
 |(with_reducible refine K_ca 51 ?_); refine zC (hex) ?_
 |(with_reducible refine K_ca 52 ?_); refine zC (hft) ?_
 |(with_reducible refine K_ca 53 ?_); refine zC (hbg) ?_
 |(with_reducible refine K_ca 54 ?_); (first
 |refine zC (hcm) ?_
 |refine zC (hself) ?_)
 |(with_reducible refine K_ca 55 ?_); refine zC (hab) ?_
 |refine wA ?_
 |(refine wC ?_ ?_ <;> intro hc)
 |refine wB ?_ ?_
 |(with_reducible refine JL.block ?_)
 |(with_reducible refine F_at ?_); refine eW (vs := [(_, _)]) Tryz.results24 ?_; (focus (repeat' (first | exact oA | refine oB ?_ | refine oC ?_ ?_ | fail)))
 |exact oM
 |fail)
  all_goals first | rfl | (exfalso; omega) | trace_state
 ·have hex' : FnSound Tryz.prog 51 [.val true (scC p c.plan), .val false [.d (.v (.int .i64 c.at_))], .val false [.d (.v (.int .i64 c.phase))]] [] { vals := [(true, mixC c.mix), (false, [.d (.v (.int .i64 0))])] } := by
    by_cases h0 : c.phase = 0
    ·rw [ek0 h0] at hex
     have : c.mix = (mixesP p c.plan).getD c.at_.toNat nilM := Classical.byContradiction fun b => hm ⟨h0, b⟩
     rw [this]; exact hex
    ·rw [ek1 h0] at hex
     exact hex
  have hlt0 : c.phase = 0 → c.at_ < c.plan.length := fun b => hlt (by omega)
  clear h hr hs hc hso hv hex hm
  refine startW (tm := [(0, _), (1, _), (2, _)]) Tryz.func24 rfl Tryz.ntmps24 rfl rfl rfl rfl ?_
  repeat' (first
 |(with_reducible refine K_ca 49 ?_); refine zC (hst) ?_
 |(with_reducible refine K_ca 50 ?_); refine zC (hsc) ?_
 |(with_reducible refine K_ca 51 ?_); refine zC (hex') ?_
 |(with_reducible refine K_ca 52 ?_); refine zC (hft) ?_
 |(with_reducible refine K_ca 53 ?_); refine zC (hbg) ?_
 |(with_reducible refine K_ca 54 ?_); refine zC (hself) ?_
 |refine wA ?_
 |(refine wC ?_ ?_ <;> intro hc)
 |refine wB ?_ ?_
 |(with_reducible refine JL.block ?_)
 |(with_reducible refine F_at ?_); refine eW (vs := [(_, _)]) Tryz.results24 ?_; (focus (repeat' (first | exact oA | refine oB ?_ | refine oC ?_ ?_ | fail)))
 |exact oM
 |fail)
  all_goals first | rfl | (exfalso; omega) | trace_state
end Go.Proofs.YtbdjcgjdmhgnmaaGreat

namespace Go.Proofs.YtbdjcgjdmhgnmaaGreat
open Go Go.RowKit
set_option maxRecDepth 100000
set_option maxHeartbeats 8000000
set_option linter.unusedSimpArgs false
set_option linter.unusedVariables false
theorem perr_fn (p : Prob) (rs : List Int) (c : CtlD) (h : CtlK p c) (hr : CtlR p rs c) (hs : setErr p rs = 0) (hc : checkP p c.plan = true) (hl : c.plan.length ≤ 1000000) (hrd : -1000000000 ≤ c.round ∧ c.round ≤ 1000000000) (hrp : -1000000000 ≤ c.replica ∧ c.replica ≤ 1000000000) : FnSound Tryz.prog 76 [.val true (probC p), .val false [.d (.sl 1 (dInts rs))], .val true (ctlC c)] [] { vals := [(false, [.d (.v (.int .i64 0))])] } := by
 have hso := setErr_ok hs
 have hvp := vp_all hso.1
 have hst := psetting_fn p rs (by have := hso.2.1; omega)
 rw [hs] at hst
 have hv := pvalid_fn p rs c h hr hs hc hl hrd hrp
 refine startW (tm := [(0, _), (1, _), (2, _)]) Tryz.func76 rfl Tryz.ntmps76 rfl rfl rfl rfl ?_
 repeat' (first
 |(with_reducible refine K_ca 49 ?_); refine zC (hst) ?_
 |(with_reducible refine K_ca 24 ?_); refine zC (hv) ?_
 |refine wA ?_
 |(refine wC ?_ ?_ <;> intro hc)
 |refine wB ?_ ?_
 |(with_reducible refine JL.block ?_)
 |(with_reducible refine F_at ?_); refine eW (vs := [(_, _)]) Tryz.results76 ?_; (focus (repeat' (first | exact oA | refine oB ?_ | refine oC ?_ ?_ | fail)))
 |exact oM
 |fail)
 all_goals first | rfl | (exfalso; omega) | trace_state
theorem pcl53_fn (c : CtlD) (hl : c.plan.length ≤ 1000000) (hf : c.mix.base.length ≤ 1000 ∧ c.mix.next.length ≤ 1000 ∧ c.mix.held.length ≤ 1000) : FnSound Tryz.prog 77 [.val true (ctlC c)] [] { vals := [(true, ctlC c)] } := by
 refine startW (tm := [(0, _)]) Tryz.func77 rfl Tryz.ntmps77 rfl rfl rfl rfl ?_
 repeat' (first
 |(with_reducible refine K_ca 58 ?_); refine zS (cloneSteps_fn c.plan hl) ?_
 |(with_reducible refine K_ca 90 ?_); (first
 |refine zS (cloneInts_fn c.mix.base (by omega)) ?_
 |refine zS (cloneInts_fn c.mix.next (by omega)) ?_)
 |(with_reducible refine K_ca 91 ?_); refine zS (cloneSets_fn c.mix.held (by omega)) ?_
 |refine wA ?_
 |(refine wC ?_ ?_ <;> intro hc)
 |refine wB ?_ ?_
 |(with_reducible refine JL.block ?_)
 |(with_reducible refine F_at ?_); refine eW (vs := [(_, _)]) Tryz.results77 ?_; (focus (repeat' (first | exact oA | refine oB ?_ | refine oC ?_ ?_ | fail)))
 |exact oM
 |fail)
 all_goals first | rfl | trace_state
theorem psigs_fn (p : Prob) (rs : List Int) (c : CtlD) (ss : List SigD) (n : Int) (h : SigK p rs c.plan c n) (hn : 0 ≤ n ∧ n ≤ 10000000) (hs : setErr p rs = 0) (hc : checkP p c.plan = true) (hl : c.plan.length ≤ 1000000) (hss : ss.length ≤ 100) : FnSound Tryz.prog 36 [.val true (probC p), .val false [.d (.sl 1 (dInts rs))], .val true (ctlC c), .val false [.d (.sl 7 (dSigs ss))]] [] { vals := [(true, ctlC (sigAt p rs c ss ss.length).1), (false, [.d (.sl 10 (dActs (sigAt p rs c ss ss.length).2))]), (false, [.d (.v (.int .i64 0))])] } := by
 have hso := setErr_ok hs
 have hvp := vp_all hso.1
 have hv := planV_of hso.1 hc
 have hb := h.b
 have hrd := hb.rd
 have hrp := hb.rp
 have her := perr_fn p rs c h.ck h.cr hs hc hl (by omega) (by omega)
 have hcl := pcl53_fn c hl (few_of h.ck.g)
 have hk := sigAt_k (ss := ss) h hn hs hl
 have hsg : ∀ k : Nat, k ≤ 100 → FnSound Tryz.prog 78 [.io 140 (machC p rs (sigAt p rs c ss k).1 (1000, 0)), .val true (sigC (ss.getD k nilG))] (actB (sigAt p rs c ss k).2) (mRes p rs (sigAt p rs c ss (k + 1)).1 (sigAt p rs c ss (k + 1)).2) := fun k hk' => by
  obtain ⟨a1, a2⟩ := hk k hk'
  have e1 := a1.b.plan
  have e2 := a1.b.rd
  have e3 := a1.b.rp
  exact msignal_fn p rs _ _ _ a1.ck (by rw [e1]; exact hv) a1.cr hs (by rw [e1]; exact hl) (by omega) (by omega) (by omega)
 have hal : ∀ k : Nat, k ≤ 100 → (sigAt p rs c ss k).2.length ≤ 2 * k := fun k hk' => (hk k hk').2
 clear hk her
 have her := perr_fn p rs c h.ck h.cr hs hc hl (by omega) (by omega)
 refine startW (tm := [(0, _), (1, _), (2, _), (3, _)]) Tryz.func36 rfl Tryz.ntmps36 rfl rfl rfl rfl ?_
 repeat' (first
 |(with_reducible refine K_ca 76 ?_); refine zC (her) ?_
 |(with_reducible refine K_ca 77 ?_); refine zC (hcl) ?_
 |(with_reducible refine K_ca 78 ?_); refine zT (hsg k (by omega)) ?_
 |(with_reducible refine blk_at (id := 0) ?_); (try (refine JL.zeroBW (cs2 := [_, _, _, _, _, _, _, _, _, _, _, _, _, _, _]) (320, 500) 14 _ 76 10 rfl rfl rfl rfl ?_)); (refine JL.rekBW (cs2 := [_, _, _, _, _, _, _, _, _, _, _, _, _, _, _]) (320, 500) 14 (1462, 651) rfl rfl rfl rfl rfl rfl ?_); ((with_reducible refine JL.loopW 0 699 (fun (k : Nat) tm => (31, .one false [.d (.v (.int .i64 ((k : Int))))]) :: tm) (fun (k : Nat) bo => ((320, 500), some (.st 140 [.d (.sl 1 ((dInts p.vs))), .d (.sl 1 ((dInts p.now))), .d (.sl 1 ((dInts p.tgt))), .d (.sl 6 ((dTabs p.tabs))), .d (.sl 1 ((dInts rs))), .d (.sl 3 ((dSteps (sigAt p rs c ss k).1.plan))), .d (.v (.int .i64 ((sigAt p rs c ss k).1.at_))), .d (.v (.int .i64 ((sigAt p rs c ss k).1.phase))), .d (.v (.int .i64 ((sigAt p rs c ss k).1.replica))), .d (.v (.int .i64 ((sigAt p rs c ss k).1.round))), .d (.v (.int .i64 ((sigAt p rs c ss k).1.token))), .d (.sl 1 ((dInts (sigAt p rs c ss k).1.mix.base))), .d (.sl 1 ((dInts (sigAt p rs c ss k).1.mix.next))), .d (.sl 1 ((dSets (sigAt p rs c ss k).1.mix.held))), .own (1462, 651)])) :: ((1462, 651), some (.sl 76 10 ((dActs (sigAt p rs c ss k).2)))) :: bo) (fun (k : Nat) => k ≤ ss.length) (fun (k : Nat) => ss.length - k) (0) ?_ (fun k hk => have h2 := hal k (by omega); ?_) ?_); (focus (apply SubW [((1462, 651), _)] rfl ?_ ?_ rfl ?_; (repeat' (first | exact kA | refine kB ?_ | refine kC ?_ ?_ | exact kD | fail)))))
 |((with_reducible refine round_next (i := k) (k + 1) ?_ ?_ ?_); (focus (apply SubW [((1462, 651), _)] rfl ?_ ?_ rfl ?_; (repeat' (first | exact kA | refine kB ?_ | refine kC ?_ ?_ | exact kD | fail)))))
 |refine wA ?_
 |(refine wC ?_ ?_ <;> intro hc)
 |refine wB ?_ ?_
 |(with_reducible refine JL.block ?_)
 |(with_reducible refine F_at ?_); refine eW (vs := [(_, _), (_, _), (_, _)]) Tryz.results36 ?_; (focus (repeat' (first | exact oA | refine oB ?_ | refine oC ?_ ?_ | fail)))
 |exact oM
 |fail)
 all_goals first
  | with_reducible rfl
  | rfl
  | (exfalso; omega)
  | (have e : k = ss.length := by omega
     rw [e]; done)
  | trace_state
theorem pstep_fn (p : Prob) (rs : List Int) (c : CtlD) (s : SigD) (n : Int) (h : SigK p rs c.plan c n) (hn : 0 ≤ n ∧ n ≤ 10000000) (hs : setErr p rs = 0) (hc : checkP p c.plan = true) (hl : c.plan.length ≤ 1000000) : FnSound Tryz.prog 19 [.val true (probC p), .val false [.d (.sl 1 (dInts rs))], .val true (ctlC c), .val true (sigC s)] [] { vals := [(true, ctlC (nextP p rs c s).1), (false, [.d (.sl 10 (dActs (nextP p rs c s).2))]), (false, [.d (.v (.int .i64 0))])] } := by
 have hr := psigs_fn p rs c [s] n h hn hs hc hl (by simp)
 rw [show ([s] : List SigD).length = 1 from rfl, sigAt_1] at hr
 refine startW (tm := [(0, _), (1, _), (2, _), (3, _)]) Tryz.func19 rfl Tryz.ntmps19 rfl rfl rfl rfl ?_
 repeat' (first
 |(with_reducible refine K_ca 36 ?_); refine zC (hr) ?_
 |refine wA ?_
 |(refine wC ?_ ?_ <;> intro hc)
 |refine wB ?_ ?_
 |(with_reducible refine JL.block ?_)
 |(with_reducible refine F_at ?_); refine eW (vs := [(_, _), (_, _), (_, _)]) Tryz.results19 ?_; (focus (repeat' (first | exact oA | refine oB ?_ | refine oC ?_ ?_ | fail)))
 |exact oM
 |fail)
 all_goals first | rfl | trace_state
theorem ppend_fn (p : Prob) (rs : List Int) (c : CtlD) (n : Int) (h : SigK p rs c.plan c n) (hn : 0 ≤ n ∧ n ≤ 10000000) (hs : setErr p rs = 0) (hc : checkP p c.plan = true) (hl : c.plan.length ≤ 1000000) : FnSound Tryz.prog 42 [.val true (probC p), .val false [.d (.sl 1 (dInts rs))], .val true (ctlC c)] [] { vals := [(false, [.d (.sl 10 (dActs (nextP p rs c (sig 3)).2))]), (false, [.d (.v (.int .i64 0))])] } := by
 have hr := pstep_fn p rs c (sig 3) n h hn hs hc hl
 refine startW (tm := [(0, _), (1, _), (2, _)]) Tryz.func42 rfl Tryz.ntmps42 rfl rfl rfl rfl ?_
 repeat' (first
 |(with_reducible refine K_ca 19 ?_); refine zC (hr) ?_
 |refine wA ?_
 |(refine wC ?_ ?_ <;> intro hc)
 |refine wB ?_ ?_
 |(with_reducible refine JL.block ?_)
 |(with_reducible refine F_at ?_); refine eW (vs := [(_, _), (_, _)]) Tryz.results42 ?_; (focus (repeat' (first | exact oA | refine oB ?_ | refine oC ?_ ?_ | fail)))
 |exact oM
 |fail)
 all_goals first | rfl | trace_state
end Go.Proofs.YtbdjcgjdmhgnmaaGreat

namespace Go.Proofs.YtbdjcgjdmhgnmaaGreat
open Go Go.RowKit
set_option linter.unusedSimpArgs false
set_option linter.unusedVariables false
def forgetP (p : Prob) (rs : List Int) (c : CtlD) : CtlD :=
 if c.phase = 1 ∨ c.phase = 2 then ⟨c.plan, c.at_, 1, firstR rs (present c).idx, c.round, 0, c.mix⟩
 else if c.phase = 5 then ⟨c.plan, c.at_, 3, firstR rs (present c).idx, c.round, 0, afterM p c.mix (present c)⟩
 else ⟨c.plan, c.at_, c.phase, c.replica, c.round, 0, c.mix⟩
theorem forget_plan {p : Prob} {rs : List Int} {c : CtlD} : (forgetP p rs c).plan = c.plan ∧ (forgetP p rs c).at_ = c.at_ ∧ (forgetP p rs c).round = c.round ∧ (forgetP p rs c).token = 0 := by
 unfold forgetP
 split
 ·exact ⟨rfl, rfl, rfl, rfl⟩
 ·split
  ·exact ⟨rfl, rfl, rfl, rfl⟩
  ·exact ⟨rfl, rfl, rfl, rfl⟩
theorem CtlK.undone {p : Prob} {c : CtlD} (h : CtlK p c) (h5 : c.phase = 5) : afterM p c.mix (present c) = (mixesP p c.plan).getD (c.at_ + 1).toNat nilM := by
 have hlt := h.lt (by omega)
 have hr := h.rng
 obtain ⟨k, m⟩ := h.ph5 h5
 unfold afterM
 rw [m]
 have := (h.plan.abort ⟨hr.1, hlt⟩ k).2.1
 unfold present
 rw [this]; rfl
theorem CtlK.forget {p : Prob} {rs : List Int} {c : CtlD} (h : CtlK p c) : CtlK p (forgetP p rs c) := by
 have hr := h.rng
 unfold forgetP
 split
 ·rename_i h12
  have hlt := h.lt (by omega)
  have key : ((present c).kind = 1 ∧ c.mix = (mixesP p c.plan).getD (c.at_ + 1).toNat nilM) ∨ ((present c).kind = 2 ∧ c.mix = (mixesP p c.plan).getD c.at_.toNat nilM) := by
   rcases h12 with a | a
   ·exact h.ph1 a
   ·exact .inl (h.ph2 (.inl a))
  refine ctlK_mk h.plan ⟨hr.1, hlt⟩ ?_
  rcases key with ⟨a, b⟩ | ⟨a, b⟩
  ·exact .inl ⟨rfl, a, b⟩
  ·exact .inr (.inl ⟨rfl, a, b⟩)
 ·split
  ·rename_i h5
   have hlt := h.lt (by omega)
   exact ctlK_mk h.plan ⟨hr.1, hlt⟩ (.inr (.inr (.inr (.inl ⟨rfl, (h.ph5 h5).1, h.undone h5⟩))))
  ·exact h.token 0
theorem CtlR.forget {p : Prob} {rs : List Int} {c : CtlD} (h : CtlR p rs c) (hk : CtlK p c) (hs : setErr p rs = 0) : CtlR p rs (forgetP p rs c) := by
 have hso := setErr_ok hs
 have hvp := vp_all hso.1
 obtain ⟨q, q0, q1, q2⟩ := h.rest
 unfold forgetP
 split
 ·rename_i h12
  have hlt := hk.lt (by omega)
  have hk3 : ¬ (present c).kind = 3 := by
   rcases h12 with a | a
   ·rcases hk.ph1 a with b | b <;> omega
   ·have := (hk.ph2 (.inl a)).1; omega
  have hi := hk.svc (by omega) hk3
  have h2 := hso.2.2 (present c).idx.toNat (by omega)
  refine ⟨⟨q, q0, ?_, fun a => absurd (show (1 : Int) = 0 from a) (by decide)⟩, fun a => absurd (.inl rfl) a, fun _ _ => rfl, fun _ _ => ?_, Int.le_refl 0⟩
  ·show c.round = 2 * c.at_ + extraP 1 + 3 * q
   rcases h12 with a | a
   ·rw [a] at q1; exact q1
   ·rw [a] at q1; rw [extra1]; rw [extra2] at q1; exact q1
  ·show firstR rs (present c).idx ≤ firstR rs (present c).idx ∧ firstR rs (present c).idx ≤ firstR rs (present c).idx + rs.getD (present c).idx.toNat 0 - 1
   omega
 ·split
  ·rename_i h5
   have hkk := (hk.ph5 h5).1
   refine ⟨⟨q, q0, ?_, fun a => absurd (show (3 : Int) = 0 from a) (by decide)⟩, fun a => absurd (.inr (.inr rfl)) a, fun _ _ => rfl, fun a => absurd (show (3 : Int) = 1 from a) (by decide), Int.le_refl 0⟩
   show c.round = 2 * c.at_ + extraP 3 + 3 * q
   rw [h5] at q1
   rw [extra3]; rw [extra5] at q1; exact q1
  ·exact h.token (Int.le_refl 0)
theorem SigK.forget {p : Prob} {rs : List Int} {l : List StepD} {y : CtlD} {n : Int} (h : SigK p rs l y n) (hs : setErr p rs = 0) (hn : 0 ≤ n) : SigK p rs l (forgetP p rs y) n := by
 have hso := setErr_ok hs
 have hvp := vp_all hso.1
 obtain ⟨a1, a2, a3, a4⟩ := forget_plan (p := p) (rs := rs) (c := y)
 refine ⟨h.ck.forget, h.cr.forget h.ck hs, ⟨a1.trans h.b.plan, by rw [a3]; exact h.b.rd, ?_, by rw [a4]; exact Int.le_refl 0⟩⟩
 have h1 := firstR_rng hso.2.2 (by omega) (present y).idx
 have h2 := h.b.rp
 unfold forgetP
 split
 ·show 0 ≤ firstR rs (present y).idx ∧ firstR rs (present y).idx ≤ 1000 + n; omega
 ·split
  ·show 0 ≤ firstR rs (present y).idx ∧ firstR rs (present y).idx ≤ 1000 + n; omega
  ·exact h2
theorem forget_idem {p : Prob} {rs : List Int} {c : CtlD} : forgetP p rs (forgetP p rs c) = forgetP p rs c := by
 by_cases h12 : c.phase = 1 ∨ c.phase = 2
 ·have e : forgetP p rs c = ⟨c.plan, c.at_, 1, firstR rs (present c).idx, c.round, 0, c.mix⟩ := by unfold forgetP; rw [if_pos h12]
  rw [e]
  show (if (1 : Int) = 1 ∨ (1 : Int) = 2 then _ else _) = _
  rw [if_pos (.inl rfl)]
  rfl
 ·by_cases h5 : c.phase = 5
  ·have e : forgetP p rs c = ⟨c.plan, c.at_, 3, firstR rs (present c).idx, c.round, 0, afterM p c.mix (present c)⟩ := by unfold forgetP; rw [if_neg h12, if_pos h5]
   rw [e]
   show (if (3 : Int) = 1 ∨ (3 : Int) = 2 then _ else if (3 : Int) = 5 then _ else _) = _
   rw [if_neg (by decide), if_neg (by decide)]
  ·have e : forgetP p rs c = ⟨c.plan, c.at_, c.phase, c.replica, c.round, 0, c.mix⟩ := by unfold forgetP; rw [if_neg h12, if_neg h5]
   rw [e]
   show (if c.phase = 1 ∨ c.phase = 2 then _ else if c.phase = 5 then _ else _) = _
   rw [if_neg h12, if_neg h5]
end Go.Proofs.YtbdjcgjdmhgnmaaGreat

