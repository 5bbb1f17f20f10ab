/- Rules of runs and contracts of functions, for the claims of one seat. -/
import Derived.Test.YtdpeoolildjohaaGreatDoorQA14
import Derived.Test.YtdpeoolildjohaaGreatDoorQA15
import Derived.Test.YtdpeoolildjohaaGreatDoorQA22
import Derived.Test.YtdpeoolildjohaaGreatDoorQA28
namespace Go.Proofs.YtdpeoolildjohaaGreatDoor
open Go Go.RowKit
set_option maxRecDepth 100000
set_option maxHeartbeats 8000000
set_option linter.unusedSimpArgs false
set_option linter.unusedVariables false
theorem apply0_fn (p : Prob) (m : MixD) (s : StepD) (h : ¬ mixErr p m = 0) : FnSound Tryz.prog 110 [.val true (probC p), .val true (mixC m), .val true (stepC s)] [] { vals := [(true, mixC nilM), (false, [.d (.v (.int .i64 (mixErr p m)))])] } := by
 refine startW (tm := [(0, _), (1, _), (2, _)]) Tryz.func110 rfl Tryz.ntmps110 rfl rfl rfl rfl ?_
 repeat' (first
 |(with_reducible refine K_ca 66 ?_); refine zC (mixValid_fn p m) ?_
 |(with_reducible refine K_ca 133 ?_); refine zC (stepValid_fn s) ?_
 |(with_reducible refine K_ca 75 ?_); refine zC (after_fn p m s (mixIn_of (by assumption)) (stepAt_of (by assumption) (by assumption)) (by omega)) ?_
 |refine wA ?_
 |(refine wC ?_ ?_ <;> intro hc)
 |refine wB ?_ ?_
 |(with_reducible refine JL.block ?_)
 |(with_reducible refine F_at ?_); refine eW (vs := [(_, _), (_, _)]) Tryz.results110 ?_; (focus (repeat' (first | exact oA | refine oB ?_ | refine oC ?_ ?_ | fail)))
 |exact oM
 |fail)
 all_goals first | rfl | exact absurd hc h | exact absurd (by assumption) h
theorem apply1_fn (p : Prob) (m : MixD) (s : StepD) (h : mixErr p m = 0) (hs : stepOK s = false) : FnSound Tryz.prog 110 [.val true (probC p), .val true (mixC m), .val true (stepC s)] [] { vals := [(true, mixC nilM), (false, [.d (.v (.int .i64 1))])] } := by
 have hv := stepValid_fn s
 rw [hs] at hv
 refine startW (tm := [(0, _), (1, _), (2, _)]) Tryz.func110 rfl Tryz.ntmps110 rfl rfl rfl rfl ?_
 repeat' (first
 |(with_reducible refine K_ca 66 ?_); refine zC (mixValidOK_fn h) ?_
 |(with_reducible refine K_ca 133 ?_); refine zC (hv) ?_
 |refine wA ?_
 |(refine wC ?_ ?_ <;> intro hc)
 |refine wB ?_ ?_
 |(with_reducible refine JL.block ?_)
 |(with_reducible refine F_at ?_); refine eW (vs := [(_, _), (_, _)]) Tryz.results110 ?_; (focus (repeat' (first | exact oA | refine oB ?_ | refine oC ?_ ?_ | fail)))
 |exact oM
 |fail)
 all_goals rfl
theorem apply2_fn (p : Prob) (m : MixD) (s : StepD) (h : mixErr p m = 0) (hs : stepOK s = true) (ht : thereB p s = false) : FnSound Tryz.prog 110 [.val true (probC p), .val true (mixC m), .val true (stepC s)] [] { vals := [(true, mixC nilM), (false, [.d (.v (.int .i64 4))])] } := by
 have hv := stepValid_fn s
 rw [hs] at hv
 have h2 : 0 ≤ s.idx := by simp only [stepOK, decide_eq_true_eq] at hs; omega
 have h3 : ¬ ((s.kind = 3 → s.idx < p.tabs.length) ∧ (¬ s.kind = 3 → s.idx < p.vs.length) ∧ (s.kind = 1 → s.ver < p.vs.getD s.idx.toNat 0)) := by
  intro ⟨a, b, c⟩
  have : thereB p s = true := by
   unfold thereB
   split
   ·simp; omega
   ·simp only [Bool.and_eq_true, Bool.or_eq_true, decide_eq_true_eq]
    by_cases k1 : s.kind = 1
    ·exact ⟨by omega, .inr (c k1)⟩
    ·exact ⟨by omega, .inl k1⟩
  rw [ht] at this; cases this
 refine startW (tm := [(0, _), (1, _), (2, _)]) Tryz.func110 rfl Tryz.ntmps110 rfl rfl rfl rfl ?_
 repeat' (first
 |(with_reducible refine K_ca 66 ?_); refine zC (mixValidOK_fn h) ?_
 |(with_reducible refine K_ca 133 ?_); refine zC (hv) ?_
 |refine wA ?_
 |(refine wC ?_ ?_ <;> intro hc)
 |refine wB ?_ ?_
 |(with_reducible refine JL.block ?_)
 |(with_reducible refine F_at ?_); refine eW (vs := [(_, _), (_, _)]) Tryz.results110 ?_; (focus (repeat' (first | exact oA | refine oB ?_ | refine oC ?_ ?_ | fail)))
 |exact oM
 |fail)
 all_goals first | rfl | (exfalso; omega)
theorem apply3_fn (p : Prob) (m : MixD) (s : StepD) (h : mixErr p m = 0) (hs : stepOK s = true) (ht : thereB p s = true) (hn : afterP p m s = none) : FnSound Tryz.prog 110 [.val true (probC p), .val true (mixC m), .val true (stepC s)] [] { vals := [(true, mixC nilM), (false, [.d (.v (.int .i64 11))])] } := by
 have hv := stepValid_fn s
 rw [hs] at hv
 have hk : 1 ≤ s.kind ∧ s.kind ≤ 4 := by simp only [stepOK, decide_eq_true_eq] at hs; omega
 have hat := stepAt_of hs ht
 have ha := after_fn p m s (mixIn_of h) hat hk
 rw [hn] at ha
 have h1 := hat.nn; have h2 := hat.tab; have h3 := hat.svc; have h4 := hat.ver
 refine startW (tm := [(0, _), (1, _), (2, _)]) Tryz.func110 rfl Tryz.ntmps110 rfl rfl rfl rfl ?_
 repeat' (first
 |(with_reducible refine K_ca 66 ?_); refine zC (mixValidOK_fn h) ?_
 |(with_reducible refine K_ca 133 ?_); refine zC (hv) ?_
 |(with_reducible refine K_ca 75 ?_); refine zC (ha) ?_
 |refine wA ?_
 |(refine wC ?_ ?_ <;> intro hc)
 |refine wB ?_ ?_
 |(with_reducible refine JL.block ?_)
 |(with_reducible refine F_at ?_); refine eW (vs := [(_, _), (_, _)]) Tryz.results110 ?_; (focus (repeat' (first | exact oA | refine oB ?_ | refine oC ?_ ?_ | fail)))
 |exact oM
 |fail)
 all_goals first | rfl | (exfalso; omega)
theorem apply4_fn (p : Prob) (m x : MixD) (s : StepD) (h : mixErr p m = 0) (hs : stepOK s = true) (ht : thereB p s = true) (hn : afterP p m s = some x) : FnSound Tryz.prog 110 [.val true (probC p), .val true (mixC m), .val true (stepC s)] [] { vals := [(true, mixC x), (false, [.d (.v (.int .i64 0))])] } := by
 have hv := stepValid_fn s
 rw [hs] at hv
 have hk : 1 ≤ s.kind ∧ s.kind ≤ 4 := by simp only [stepOK, decide_eq_true_eq] at hs; omega
 have hat := stepAt_of hs ht
 have ha := after_fn p m s (mixIn_of h) hat hk
 rw [hn] at ha
 have h1 := hat.nn; have h2 := hat.tab; have h3 := hat.svc; have h4 := hat.ver
 refine startW (tm := [(0, _), (1, _), (2, _)]) Tryz.func110 rfl Tryz.ntmps110 rfl rfl rfl rfl ?_
 repeat' (first
 |(with_reducible refine K_ca 66 ?_); refine zC (mixValidOK_fn h) ?_
 |(with_reducible refine K_ca 133 ?_); refine zC (hv) ?_
 |(with_reducible refine K_ca 75 ?_); refine zC (ha) ?_
 |refine wA ?_
 |(refine wC ?_ ?_ <;> intro hc)
 |refine wB ?_ ?_
 |(with_reducible refine JL.block ?_)
 |(with_reducible refine F_at ?_); refine eW (vs := [(_, _), (_, _)]) Tryz.results110 ?_; (focus (repeat' (first | exact oA | refine oB ?_ | refine oC ?_ ?_ | fail)))
 |exact oM
 |fail)
 all_goals first | rfl | (exfalso; omega)
theorem apply_fn (p : Prob) (m : MixD) (s : StepD) : FnSound Tryz.prog 110 [.val true (probC p), .val true (mixC m), .val true (stepC s)] [] { vals := [(true, mixC (applyP p m s).1), (false, [.d (.v (.int .i64 (applyP p m s).2))])] } := by
 unfold applyP
 by_cases h : mixErr p m = 0
 ·rw [if_neg (by simpa using h)]
  cases hs : stepOK s with
  | false => rw [if_pos rfl]; exact apply1_fn p m s h hs
  | true =>
   rw [if_neg (by decide)]
   cases ht : thereB p s with
   | false => rw [if_pos rfl]; exact apply2_fn p m s h hs ht
   | true =>
    rw [if_neg (by decide)]
    cases hn : afterP p m s with
    | none => exact apply3_fn p m s h hs ht hn
    | some x => exact apply4_fn p m x s h hs ht hn
 ·rw [if_pos h]; exact apply0_fn p m s h
def st3 (p : Prob) (m : MixD) (kind i v : Nat) : List StepD := (List.range v).flatMap fun (v : Nat) => if (applyP p m ⟨(kind : Int) + 1, i, v⟩).2 = 0 then [⟨(kind : Int) + 1, i, v⟩] else []
def st2 (p : Prob) (m : MixD) (kind i : Nat) : List StepD := (List.range i).flatMap fun (i : Nat) => (List.range 6).flatMap fun (v : Nat) => if (applyP p m ⟨(kind : Int) + 1, i, v⟩).2 = 0 then [⟨(kind : Int) + 1, i, v⟩] else []
def st1 (p : Prob) (m : MixD) (k : Nat) : List StepD := (List.range k).flatMap fun (kind : Nat) => (List.range (max p.vs.length p.tabs.length)).flatMap fun (i : Nat) => (List.range 6).flatMap fun (v : Nat) => if (applyP p m ⟨(kind : Int) + 1, i, v⟩).2 = 0 then [⟨(kind : Int) + 1, i, v⟩] else []
theorem st3_len {p : Prob} {m : MixD} {kind i : Nat} : ∀ v, (st3 p m kind i v).length ≤ v
 | 0 => by simp [st3]
 | v + 1 => by
  have := st3_len (p := p) (m := m) (kind := kind) (i := i) v
  unfold st3 at this ⊢
  rw [range_fm, List.length_append]
  split <;> simp only [List.length_cons, List.length_nil] <;> omega
theorem st2_len {p : Prob} {m : MixD} {kind : Nat} : ∀ i, (st2 p m kind i).length ≤ i * 6
 | 0 => by simp [st2]
 | i + 1 => by
  have h1 := st2_len (p := p) (m := m) (kind := kind) i
  have h2 := st3_len (p := p) (m := m) (kind := kind) (i := i) 6
  unfold st2 at h1 ⊢
  unfold st3 at h2
  rw [range_fm, List.length_append]
  omega
theorem st1_len {p : Prob} {m : MixD} (hp : vpErr p = 0) : ∀ k, (st1 p m k).length ≤ k * 72
 | 0 => by simp [st1]
 | k + 1 => by
  have h1 := st1_len (m := m) hp k
  have h2 := st2_len (p := p) (m := m) (kind := k) (max p.vs.length p.tabs.length)
  have hv := vp_all hp
  have h3 : max p.vs.length p.tabs.length ≤ 12 := by omega
  unfold st1 at h1 ⊢
  unfold st2 at h2
  rw [range_fm, List.length_append]
  omega
theorem st3_yes {p : Prob} {m : MixD} {kind i v : Nat} (h : (applyP p m ⟨(kind : Int) + 1, i, v⟩).2 = 0) : st3 p m kind i (v + 1) = st3 p m kind i v ++ [⟨(kind : Int) + 1, i, v⟩] := by
 unfold st3; rw [range_fm, if_pos h]
theorem st3_no {p : Prob} {m : MixD} {kind i v : Nat} (h : ¬ (applyP p m ⟨(kind : Int) + 1, i, v⟩).2 = 0) : st3 p m kind i (v + 1) = st3 p m kind i v := by
 unfold st3; rw [range_fm, if_neg h, List.append_nil]
theorem st2_step {p : Prob} {m : MixD} {kind i v : Nat} (h : v = 6) : st2 p m kind (i + 1) = st2 p m kind i ++ st3 p m kind i v := by
 subst h; unfold st2; rw [range_fm]; rfl
theorem st1_step {p : Prob} {m : MixD} {k i : Nat} (h : i = max p.vs.length p.tabs.length) : st1 p m (k + 1) = st1 p m k ++ st2 p m k i := by
 subst h; unfold st1; rw [range_fm]; rfl
theorem steps_fn (p : Prob) (m : MixD) (hp : vpErr p = 0) : FnSound Tryz.prog 74 [.val true (probC p), .val true (mixC m)] [] { vals := [(false, [.d (.sl 3 (dSteps (stepsP p m)))])] } := by
 have hvp := vp_all hp
 refine startW (tm := [(0, _), (1, _)]) Tryz.func74 rfl Tryz.ntmps74 rfl rfl rfl rfl ?_
 repeat' (first
 |(with_reducible refine rgn 5 500 ?_ ?_); exact rfl
 |(with_reducible refine rgn 6 600 ?_ ?_); exact rfl
 |(with_reducible refine rgn 8 700 ?_ ?_); exact rfl
 |(with_reducible refine rgn 9 800 ?_ ?_); exact rfl
 |(with_reducible refine rgn 11 900 ?_ ?_); exact rfl
 |(with_reducible refine rgn 12 1000 ?_ ?_); exact rfl
 |(with_reducible refine rgn 13 1100 ?_ ?_); exact rfl
 |(with_reducible refine rgn 14 1200 ?_ ?_); exact rfl
 |(with_reducible refine rgn 10 1300 ?_ ?_); exact rfl
 |(with_reducible refine rgn 7 1400 ?_ ?_); exact rfl
 |(with_reducible refine rgn 4 1500 ?_ ?_); exact rfl
 |(with_reducible refine K_ca 110 ?_); refine zC (apply_fn p m ⟨(k : Int) + 1, i, v⟩) ?_
 |(with_reducible refine blk_at (id := 0) ?_); (try (refine JL.zeroW 5 _ 46 3 rfl rfl ?_)); (refine JL.rekW 5 (1080, 351) rfl rfl rfl rfl ?_); ((with_reducible refine JL.loopW 0 399 (fun (k : Nat) tm => (6, .one false [.d (.v (.int .i64 (((k : Int) + 1))))]) :: (5, .one false [.own (1080, 351)]) :: tm) (fun (k : Nat) bo => ((1080, 351), some (.sl 46 3 ((dSteps (st1 p m k))))) :: bo) (fun (k : Nat) => k ≤ 3) (fun (k : Nat) => 3 - k) (0) ?_ (fun k hk => have hl1 := st1_len (m := m) hp k; ?_) ?_); (focus (apply SubW [((1080, 351), _)] rfl ?_ ?_ rfl ?_; (repeat' (first | exact kA | refine kB ?_ | refine kC ?_ ?_ | exact kD | fail)))))
 |((with_reducible refine round_next (i := k) (k + 1) ?_ ?_ ?_); (focus (apply SubW [((1080, 351), _)] rfl ?_ ?_ rfl ?_; (repeat' (first | exact kA | refine kB ?_ | refine kC ?_ ?_ | exact kD | fail)))))
 |(with_reducible refine blk_at (id := 2) ?_); (try (refine JL.zeroW 5 _ 46 3 rfl rfl ?_)); (refine JL.rekW 5 (1080, 551) rfl rfl rfl rfl ?_); ((with_reducible refine JL.loopW 2 599 (fun (i : Nat) tm => (7, .one false [.d (.v (.int .i64 ((i : Int))))]) :: (5, .one false [.own (1080, 551)]) :: tm) (fun (i : Nat) bo => ((1080, 551), some (.sl 46 3 ((dSteps (st1 p m k ++ st2 p m k i))))) :: bo) (fun (i : Nat) => i ≤ max p.vs.length p.tabs.length) (fun (i : Nat) => max p.vs.length p.tabs.length - i) (0) ?_ (fun i hi => have hl2 := st2_len (p := p) (m := m) (kind := k) i; ?_) ?_); (focus (apply SubW [((1080, 551), _)] rfl ?_ ?_ rfl ?_; (repeat' (first | exact kA | refine kB ?_ | refine kC ?_ ?_ | exact kD | fail)))))
 |((with_reducible refine round_next (i := i) (i + 1) ?_ ?_ ?_); (focus (apply SubW [((1080, 551), _)] rfl ?_ ?_ rfl ?_; (repeat' (first | exact kA | refine kB ?_ | refine kC ?_ ?_ | exact kD | fail)))))
 |(with_reducible refine blk_at (id := 4) ?_); (try (refine JL.zeroW 5 _ 46 3 rfl rfl ?_)); (refine JL.rekW 5 (1080, 751) rfl rfl rfl rfl ?_); ((with_reducible refine JL.loopW 4 799 (fun (v : Nat) tm => (8, .one false [.d (.v (.int .i64 ((v : Int))))]) :: (5, .one false [.own (1080, 751)]) :: tm) (fun (v : Nat) bo => ((1080, 751), some (.sl 46 3 ((dSteps (st1 p m k ++ (st2 p m k i ++ st3 p m k i v)))))) :: bo) (fun (v : Nat) => v ≤ 6) (fun (v : Nat) => 6 - v) (0) ?_ (fun v hv => have hl3 := st3_len (p := p) (m := m) (kind := k) (i := i) v; ?_) ?_); (focus (apply SubW [((1080, 751), _)] rfl ?_ ?_ rfl ?_; (repeat' (first | exact kA | refine kB ?_ | refine kC ?_ ?_ | exact kD | fail)))))
 |((with_reducible refine round_next (i := v) (v + 1) ?_ ?_ ?_); (focus (apply SubW [((1080, 751), _)] rfl ?_ ?_ rfl ?_; (repeat' (first | exact kA | refine kB ?_ | refine kC ?_ ?_ | exact kD | fail)))))
 |refine wA ?_
 |(refine wC ?_ ?_ <;> intro hc)
 |refine wB ?_ ?_
 |(with_reducible refine JL.block ?_)
 |(with_reducible refine F_at ?_); refine eW (vs := [(_, _)]) Tryz.results74 ?_; (focus (repeat' (first | exact oA | refine oB ?_ | refine oC ?_ ?_ | fail)))
 |exact oM
 |fail)
 all_goals first
  | rfl
  | (rw [st3_yes hc]; simp only [List.append_assoc])
  | (rw [st3_no hc])
  | (rw [st2_step (v := v) (by omega)])
  | (rw [st1_step (i := i) (by omega)])
  | (show dSteps _ = dSteps (st1 p m k ++ (st2 p m k i ++ [])); rw [List.append_nil])
  | (show dSteps _ = dSteps (st1 p m k ++ []); rw [List.append_nil])
  | (have e : k = 3 := by omega
     rw [e]; rfl)
  | omega
end Go.Proofs.YtdpeoolildjohaaGreatDoor

namespace Go.Proofs.YtdpeoolildjohaaGreatDoor
open Go Go.RowKit
set_option maxRecDepth 100000
set_option maxHeartbeats 8000000
set_option linter.unusedSimpArgs false
set_option linter.unusedVariables false
theorem MixG.few {p : Prob} {m : MixD} (h : MixG p m) : Few m := h.inn.few
theorem find_fn (p : Prob) (l : List NodeD) (m : MixD) (hl : NodesG p l) (hn : l.length ≤ 100000) (hm : MixG p m) : FnSound Tryz.prog 76 [.val false [.d (.sl 7 (dNodes l))], .val true (mixC m)] [] { vals := [(false, [.d (.v (.int .i64 (findN l m)))])] } := by
 have hg : ∀ k, MixG p (l.getD k nilN).mix ∨ ¬ k < l.length := fun k => by
  by_cases hk : k < l.length
  ·exact .inl (hl k hk)
  ·exact .inr hk
 refine startW (tm := [(0, _), (1, _)]) Tryz.func76 rfl Tryz.ntmps76 rfl rfl rfl rfl ?_
 repeat' (first
 |(with_reducible refine rgn 4 400 ?_ ?_); exact rfl
 |(with_reducible refine rgn 5 500 ?_ ?_); exact rfl
 |(with_reducible refine rgn 3 600 ?_ ?_); exact rfl
 |(with_reducible refine K_ca 36 ?_); refine zC (equal_fn (l.getD k nilN).mix m ((hg k).resolve_right (by omega)).few hm.few ((hg k).resolve_right (by omega)).u hm.u) ?_
 |(with_reducible refine blk_at (id := 0) ?_); ((with_reducible refine JL.loopW 0 299 (fun (k : Nat) tm => (5, .one false [.d (.v (.int .i64 ((k : Int))))]) :: tm) (fun (k : Nat) bo => bo) (fun (k : Nat) => k ≤ l.length ∧ ∀ j, j < k → ¬ (l.getD j nilN).mix = m) (fun (k : Nat) => l.length - k) (0) ?_ (fun k hk => ?_) ?_); (focus (apply SubW [] rfl ?_ ?_ rfl ?_; (repeat' (first | exact kA | refine kB ?_ | refine kC ?_ ?_ | exact kD | fail)))))
 |((with_reducible refine round_next (i := k) (k + 1) ?_ ?_ ?_); (focus (apply SubW [] rfl ?_ ?_ rfl ?_; (repeat' (first | exact kA | refine kB ?_ | refine kC ?_ ?_ | exact kD | fail)))))
 |refine wA ?_
 |(refine wC ?_ ?_ <;> intro hc)
 |refine wB ?_ ?_
 |(with_reducible refine JL.block ?_)
 |(with_reducible refine F_at ?_); refine eW (vs := [(_, _)]) Tryz.results76 ?_; (focus (repeat' (first | exact oA | refine oB ?_ | refine oC ?_ ?_ | fail)))
 |exact oM
 |fail)
 all_goals first
  | (rw [show findN l m = findFrom m l 0 from rfl, find_at (k := k) (by omega) hk.2 hc, Nat.zero_add])
  | (rw [show findN l m = findFrom m l 0 from rfl, find_none (fun j hj => hk.2 j (by omega))])
  | exact ⟨Nat.zero_le _, fun j hj => absurd hj (Nat.not_lt_zero j)⟩
  | (refine ⟨by omega, fun j hj => ?_⟩; by_cases e : j = k; (subst e; exact hc); exact hk.2 j (by omega))
theorem way_fn (p : Prob) (m0 : MixD) (l : List NodeD) (i : Nat) (hN : NodesOK p m0 l) (hi : i < l.length) (hn : l.length ≤ 100000) : FnSound Tryz.prog 123 [.val false [.d (.sl 7 (dNodes l))], .val false [.d (.v (.int .i64 (i : Int)))]] [] { vals := [(false, [.d (.sl 3 (dSteps (wayP l i)))])] } := by
 refine startW (tm := [(0, _), (1, _)]) Tryz.func123 rfl Tryz.ntmps123 rfl rfl rfl rfl ?_
 repeat' (first
 |(with_reducible refine blk_at (id := 0) ?_); (try (refine JL.zeroW 5 _ 46 3 rfl rfl ?_)); (refine JL.rekW 5 (1080, 251) rfl rfl rfl rfl ?_); ((with_reducible refine JL.loopW 0 299 (fun (k : Nat × List StepD) tm => (1, .one false [.d (.v (.int .i64 ((k.1 : Int))))]) :: (5, .one false [.own (1080, 251)]) :: tm) (fun (k : Nat × List StepD) bo => ((1080, 251), some (.sl 46 3 ((dSteps k.2)))) :: bo) (fun (k : Nat × List StepD) => k.1 < l.length ∧ k.1 + k.2.length ≤ i ∧ wayG l (k.1 + 1) k.1 k.2 = wayP l i) (fun (k : Nat × List StepD) => k.1) ((i, [])) ?_ (fun k hk => ?_) ?_); (focus (apply SubW [((1080, 251), _)] rfl ?_ ?_ rfl ?_; (repeat' (first | exact kA | refine kB ?_ | refine kC ?_ ?_ | exact kD | fail)))))
 |((with_reducible refine round_next (i := k) (((l.getD k.1 nilN).before.toNat, (l.getD k.1 nilN).by_ :: k.2)) ?_ ?_ ?_); (focus (apply SubW [((1080, 251), _)] rfl ?_ ?_ rfl ?_; (repeat' (first | exact kA | refine kB ?_ | refine kC ?_ ?_ | exact kD | fail)))))
 |refine wA ?_
 |(refine wC ?_ ?_ <;> intro hc)
 |refine wB ?_ ?_
 |(with_reducible refine JL.block ?_)
 |(with_reducible refine F_at ?_); refine eW (vs := [(_, _)]) Tryz.results123 ?_; (focus (repeat' (first | exact oA | refine oB ?_ | refine oC ?_ ?_ | fail)))
 |exact oM
 |fail)
 all_goals first
  | rfl
  | exact ⟨hi, by simp, rfl⟩
  | (have hw := way_next hN (acc := k.2) hk.1 hc; exact ⟨by dsimp only; omega, by dsimp only [List.length_cons]; omega, hw.2.trans hk.2.2⟩)
  | (have hw := way_next hN (acc := k.2) hk.1 hc; exact hw.1)
  | (rw [← hk.2.2, way_end hc])
theorem space_fn (p : Prob) (m : MixD) (most : Nat) (hm : MixG p m) (hr : robustP p m = true) (h1 : 1 ≤ most ∧ most ≤ 20000) : FnSound Tryz.prog 44 [.val true (probC p), .val true (mixC m), .val false [.d (.v (.int .i64 (most : Int)))]] [] { vals := [(false, [.d (.sl 7 (dNodes ((spaceP p m most).getD [])))]), (false, [.d (.v (.bool (spaceP p m most).isSome))])] } := by
 have hv := hm.inn.vp
 have hsl := fun x => steps_len p x hv
 refine startW (tm := [(0, _), (1, _), (2, _)]) Tryz.func44 rfl Tryz.ntmps44 rfl rfl rfl rfl ?_
 repeat' (first
 |(with_reducible refine JL.regionW (lend := (fun g => g == 76)) (id := 5) 500 mo ?_ ?_); exact rfl
 |(with_reducible refine JL.regionW (lend := (fun g => g == 76)) (id := 6) 600 mo ?_ ?_); exact rfl
 |(with_reducible refine JL.regionW (lend := (fun g => g == 76)) (id := 7) 700 mo ?_ ?_); exact rfl
 |(with_reducible refine JL.regionW (lend := (fun g => g == 76)) (id := 9) 800 mo ?_ ?_); exact rfl
 |(with_reducible refine JL.regionW (lend := (fun g => g == 76)) (id := 10) 900 mo ?_ ?_); exact rfl
 |(with_reducible refine JL.regionW (lend := (fun g => g == 76)) (id := 11) 1000 mo ?_ ?_); exact rfl
 |(with_reducible refine JL.regionW (lend := (fun g => g == 76)) (id := 12) 1100 mo ?_ ?_); exact rfl
 |(with_reducible refine JL.regionW (lend := (fun g => g == 76)) (id := 13) 1200 mo ?_ ?_); exact rfl
 |(with_reducible refine JL.regionW (lend := (fun g => g == 76)) (id := 8) 1300 mo ?_ ?_); exact rfl
 |(with_reducible refine JL.regionW (lend := (fun g => g == 76)) (id := 4) 1400 mo ?_ ?_); exact rfl
 |(with_reducible refine rgL (fun g => g == 76) ?_ ?_); exact rfl
 |(with_reducible refine K_ca 74 ?_); refine zC (steps_fn p (y.2.getD y.1 nilN).mix hv) ?_
 |(with_reducible refine K_ca 75 ?_); refine zC (after_fn p (z.2.getD y.1 nilN).mix ((stepsP p (y.2.getD y.1 nilN).mix).getD z.1 nilS) (by rw [hz.2.2.2.2.1]; exact (hy.2.2.1 y.1 (by omega)).inn) (step_at (getD_mem (by omega))).1 (by have := (step_at (p := p) (m := (y.2.getD y.1 nilN).mix) (getD_mem (l := stepsP p (y.2.getD y.1 nilN).mix) (k := z.1) (d := nilS) (by omega))).2.2; omega)) ?_
 |(with_reducible refine K_ca 27 ?_); refine zC (robust_fn p ((afterP p (z.2.getD y.1 nilN).mix ((stepsP p (y.2.getD y.1 nilN).mix).getD z.1 nilS)).getD nilM) (by rw [hz.2.2.2.2.1]; exact (after_some_g (hy.2.2.1 y.1 (by omega)) (getD_mem (by omega))).inn)) ?_
 |(with_reducible refine K_ca 76 ?_); refine zC (find_fn p z.2 ((afterP p (z.2.getD y.1 nilN).mix ((stepsP p (y.2.getD y.1 nilN).mix).getD z.1 nilS)).getD nilM) hz.2.1 (by omega) (by rw [hz.2.2.2.2.1]; exact after_some_g (hy.2.2.1 y.1 (by omega)) (getD_mem (by omega)))) ?_
 |(with_reducible refine blk_at (id := 0) ?_); (try (refine JL.zeroW 8 _ 138 7 rfl rfl ?_)); (refine JL.rekW 8 (1128, 351) rfl rfl rfl rfl ?_); ((with_reducible refine JL.loopW 0 399 (fun (y : Nat × List NodeD) tm => (9, .one false [.d (.v (.int .i64 ((y.1 : Int))))]) :: (8, .one false [.own (1128, 351)]) :: tm) (fun (y : Nat × List NodeD) bo => ((1128, 351), some (.sl 138 7 ((dNodes y.2)))) :: bo) (fun (y : Nat × List NodeD) => y.1 ≤ y.2.length ∧ y.2.length ≤ most ∧ NodesG p y.2 ∧ spaceG p most (most + 2 - y.1) y.1 y.2 = spaceP p m most) (fun (y : Nat × List NodeD) => most + 1 - y.1) ((0, [⟨m, -1, nilS⟩])) ?_ (fun y hy => have hsy := hsl (y.2.getD y.1 nilN).mix; ?_) ?_); (focus (apply SubW [((1128, 351), _)] rfl ?_ ?_ rfl ?_; (repeat' (first | exact kA | refine kB ?_ | refine kC ?_ ?_ | exact kD | fail)))))
 |((with_reducible refine round_next (i := y) ((y.1 + 1, z.2)) ?_ ?_ ?_); (focus (apply SubW [((1128, 351), _)] rfl ?_ ?_ rfl ?_; (repeat' (first | exact kA | refine kB ?_ | refine kC ?_ ?_ | exact kD | fail)))))
 |(with_reducible refine blk_at (id := 2) ?_); (try (refine JL.zeroW 8 _ 138 7 rfl rfl ?_)); (refine JL.rekW 8 (1128, 651) rfl rfl rfl rfl ?_); ((with_reducible refine JL.loopW 2 699 (fun (z : Nat × List NodeD) tm => (11, .one false [.d (.v (.int .i64 ((z.1 : Int))))]) :: (8, .one false [.own (1128, 651)]) :: tm) (fun (z : Nat × List NodeD) bo => ((1128, 651), some (.sl 138 7 ((dNodes z.2)))) :: bo) (fun (z : Nat × List NodeD) => z.1 ≤ (stepsP p (y.2.getD y.1 nilN).mix).length ∧ NodesG p z.2 ∧ y.1 < z.2.length ∧ z.2.length ≤ most ∧ (z.2.getD y.1 nilN).mix = (y.2.getD y.1 nilN).mix ∧ spaceI p most y.1 ((stepsP p (y.2.getD y.1 nilN).mix).drop z.1) z.2 = spaceI p most y.1 (stepsP p (y.2.getD y.1 nilN).mix) y.2) (fun (z : Nat × List NodeD) => (stepsP p (y.2.getD y.1 nilN).mix).length - z.1) ((0, y.2)) ?_ (fun z hz => have hX1 := @nx3_yes p y.1 z.2 ((stepsP p (y.2.getD y.1 nilN).mix).getD z.1 nilS); have hX2 := @nx3_no p y.1 z.2 ((stepsP p (y.2.getD y.1 nilN).mix).getD z.1 nilS); ?_) ?_); (focus (apply SubW [((1128, 651), _)] rfl ?_ ?_ rfl ?_; (repeat' (first | exact kA | refine kB ?_ | refine kC ?_ ?_ | exact kD | fail)))))
 |((with_reducible refine round_next (i := z) ((z.1 + 1, nx3 p y.1 z.2 ((stepsP p (y.2.getD y.1 nilN).mix).getD z.1 nilS))) ?_ ?_ ?_); (focus (apply SubW [((1128, 651), _)] rfl ?_ ?_ rfl ?_; (repeat' (first | exact kA | refine kB ?_ | refine kC ?_ ?_ | exact kD | fail)))))
 |refine wA ?_
 |(refine wC ?_ ?_ <;> intro hc)
 |refine wB ?_ ?_
 |(with_reducible refine JL.block ?_)
 |(with_reducible refine F_at ?_); refine eW (vs := [(_, _), (_, _)]) Tryz.results44 ?_; (focus (repeat' (first | exact oA | refine oB ?_ | refine oC ?_ ?_ | fail)))
 |exact oM
 |fail)
 all_goals first
  | rfl
  | (dsimp only; rw [hX1 (by assumption) (by assumption)]; done)
  | (dsimp only; rw [hX2 (.inl (by assumption))]; done)
  | (dsimp only; rw [hX2 (.inr (by assumption))]; done)
  | exact sp_inv (hy.2.2.1 y.1 (by omega)) (by omega) hz.2.1 hz.2.2.1 hz.2.2.2.2.1 hz.2.2.2.2.2 (by rw [hX1 (by assumption) (by assumption)]; simp only [List.length_append, List.length_cons, List.length_nil] at hc ⊢; omega)
  | exact sp_inv (hy.2.2.1 y.1 (by omega)) (by omega) hz.2.1 hz.2.2.1 hz.2.2.2.2.1 hz.2.2.2.2.2 (by rw [hX2 (.inl (by assumption))]; omega)
  | exact sp_inv (hy.2.2.1 y.1 (by omega)) (by omega) hz.2.1 hz.2.2.1 hz.2.2.2.2.1 hz.2.2.2.2.2 (by rw [hX2 (.inr (by assumption))]; omega)
  | (rw [sp_none (k := z.1) (by omega) (by omega) (by omega) hz.2.2.2.2.2 hy.2.2.2 (by rw [hX1 (by assumption) (by assumption)]; simp only [List.length_append, List.length_cons, List.length_nil] at hc ⊢; omega)] <;> rfl)
  | (rw [sp_none (k := z.1) (by omega) (by omega) (by omega) hz.2.2.2.2.2 hy.2.2.2 (by rw [hX2 (.inl (by assumption))]; omega)] <;> rfl)
  | (rw [sp_none (k := z.1) (by omega) (by omega) (by omega) hz.2.2.2.2.2 hy.2.2.2 (by rw [hX2 (.inr (by assumption))]; omega)] <;> rfl)
  | exact ⟨Nat.zero_le _, hy.2.2.1, by dsimp only; omega, by dsimp only; omega, rfl, rfl⟩
  | exact ⟨by dsimp only; omega, by dsimp only; omega, hz.2.1, sp_next (k := z.1) (by omega) (by omega) (by omega) hz.2.2.2.2.2 hy.2.2.2⟩
  | (rw [← hy.2.2.2, spaceG_end (by omega) (by omega)] <;> rfl)
  | (refine ⟨Nat.zero_le _, by simpa using h1.1, fun k hk => ?_, rfl⟩; have e : k = 0 := by (simp at hk; omega)
     subst e; exact hm)
  | trace_state
end Go.Proofs.YtdpeoolildjohaaGreatDoor

namespace Go.Proofs.YtdpeoolildjohaaGreatDoor
open Go Go.RowKit
set_option maxRecDepth 100000
set_option maxHeartbeats 8000000
set_option linter.unusedSimpArgs false
set_option linter.unusedVariables false
theorem firstGoal_at {p : Prob} : ∀ {l : List NodeD} {k i : Nat}, k < l.length → (∀ j, j < k → goalP p (l.getD j nilN).mix = false) → goalP p (l.getD k nilN).mix = true → firstGoal p l i = some (i + k)
 | n :: r, 0, i, _, _, h => by
  have h : goalP p n.mix = true := h
  unfold firstGoal; rw [if_pos h]; rfl
 | n :: r, k + 1, i, hk, h0, h => by
  have h1 : goalP p n.mix = false := h0 0 (by omega)
  unfold firstGoal
  rw [if_neg (by rw [h1]; decide), firstGoal_at (k := k) (by simpa using hk) (fun j hj => h0 (j + 1) (by omega)) h]
  congr 1; omega
theorem firstGoal_no {p : Prob} : ∀ {l : List NodeD} {i : Nat}, (∀ j, j < l.length → goalP p (l.getD j nilN).mix = false) → firstGoal p l i = none
 | [], _, _ => rfl
 | n :: r, i, h0 => by
  have h1 : goalP p n.mix = false := h0 0 (by simp)
  unfold firstGoal
  rw [if_neg (by rw [h1]; decide), firstGoal_no fun j hj => h0 (j + 1) (by simpa using hj)]
def fromL (p : Prob) (l : List NodeD) : List StepD × Int := match firstGoal p l 0 with
 | none => ([], 14)
 | some i => (wayP l i, 0)
theorem fromL_at {p : Prob} {l : List NodeD} {k : Nat} (hk : k < l.length) (h0 : ∀ j, j < k → goalP p (l.getD j nilN).mix = false) (h : goalP p (l.getD k nilN).mix = true) : fromL p l = (wayP l k, 0) := by
 unfold fromL; rw [firstGoal_at hk h0 h, Nat.zero_add]
theorem fromL_no {p : Prob} {l : List NodeD} (h0 : ∀ j, j < l.length → goalP p (l.getD j nilN).mix = false) : fromL p l = ([], 14) := by
 unfold fromL; rw [firstGoal_no h0]
theorem from_fn (p : Prob) (m : MixD) (hm : mixErr p m = 0 → MixG p m) : FnSound Tryz.prog 90 [.val true (probC p), .val true (mixC m)] [] { vals := [(false, [.d (.sl 3 (dSteps (fromP p m).1))]), (false, [.d (.v (.int .i64 (fromP p m).2))])] } := by
 by_cases h : mixErr p m = 0
 ·have hg := hm h
  have hrf := robust_fn p m hg.inn
  cases hr : robustP p m with
  | false =>
   have e : fromP p m = ([], 13) := by unfold fromP; rw [if_neg (by simpa using h), if_pos hr]
   rw [e]
   rw [hr] at hrf
   refine startW (tm := [(0, _), (1, _)]) Tryz.func90 rfl Tryz.ntmps90 rfl rfl rfl rfl ?_
   repeat' (first
 |(with_reducible refine rgn 12 1200 ?_ ?_); exact rfl
 |(with_reducible refine rgn 13 1300 ?_ ?_); exact rfl
 |(with_reducible refine rgn 11 1400 ?_ ?_); exact rfl
 |(with_reducible refine K_ca 66 ?_); refine zC (mixValidOK_fn h) ?_
 |(with_reducible refine K_ca 27 ?_); refine zC (hrf) ?_
 |refine wA ?_
 |(refine wC ?_ ?_ <;> intro hc)
 |refine wB ?_ ?_
 |(with_reducible refine JL.block ?_)
 |(with_reducible refine F_at ?_); refine eW (vs := [(_, _), (_, _)]) Tryz.results90 ?_; (focus (repeat' (first | exact oA | refine oB ?_ | refine oC ?_ ?_ | fail)))
 |exact oM
 |fail)
   all_goals rfl
  | true =>
   rw [hr] at hrf
   have hsp := space_fn p m 20000 hg hr (by omega)
   cases hs : spaceP p m 20000 with
   | none =>
    have e : fromP p m = ([], 3) := by unfold fromP; rw [if_neg (by simpa using h), if_neg (by rw [hr]; decide), hs]
    rw [e]
    have hsp' : FnSound Tryz.prog 44 [.val true (probC p), .val true (mixC m), .val false [.d (.v (.int .i64 20000))]] [] { vals := [(false, [.d (.sl 7 (dNodes []))]), (false, [.d (.v (.bool false))])] } := by rw [hs] at hsp; exact hsp
    refine startW (tm := [(0, _), (1, _)]) Tryz.func90 rfl Tryz.ntmps90 rfl rfl rfl rfl ?_
    repeat' (first
 |(with_reducible refine rgn 12 1200 ?_ ?_); exact rfl
 |(with_reducible refine rgn 13 1300 ?_ ?_); exact rfl
 |(with_reducible refine rgn 11 1400 ?_ ?_); exact rfl
 |(with_reducible refine K_ca 66 ?_); refine zC (mixValidOK_fn h) ?_
 |(with_reducible refine K_ca 27 ?_); refine zC (hrf) ?_
 |(with_reducible refine K_ca 44 ?_); refine zC (hsp') ?_
 |refine wA ?_
 |(refine wC ?_ ?_ <;> intro hc)
 |refine wB ?_ ?_
 |(with_reducible refine JL.block ?_)
 |(with_reducible refine F_at ?_); refine eW (vs := [(_, _), (_, _)]) Tryz.results90 ?_; (focus (repeat' (first | exact oA | refine oB ?_ | refine oC ?_ ?_ | fail)))
 |exact oM
 |fail)
    all_goals rfl
   | some l =>
    have e : fromP p m = fromL p l := by unfold fromP; rw [if_neg (by simpa using h), if_neg (by rw [hr]; decide), hs]; rfl
    rw [e]
    have hsp' : FnSound Tryz.prog 44 [.val true (probC p), .val true (mixC m), .val false [.d (.v (.int .i64 20000))]] [] { vals := [(false, [.d (.sl 7 (dNodes l))]), (false, [.d (.v (.bool true))])] } := by rw [hs] at hsp; exact hsp
    obtain ⟨hN, hlen⟩ := spaceP_ok hr (by omega) hs
    refine startW (tm := [(0, _), (1, _)]) Tryz.func90 rfl Tryz.ntmps90 rfl rfl rfl rfl ?_
    repeat' (first
 |(with_reducible refine rgn 12 1200 ?_ ?_); exact rfl
 |(with_reducible refine rgn 13 1300 ?_ ?_); exact rfl
 |(with_reducible refine rgn 11 1400 ?_ ?_); exact rfl
 |(with_reducible refine K_ca 66 ?_); refine zC (mixValidOK_fn h) ?_
 |(with_reducible refine K_ca 27 ?_); refine zC (hrf) ?_
 |(with_reducible refine K_ca 44 ?_); refine zC (hsp') ?_
 |(with_reducible refine K_ca 31 ?_); refine zC (goal_fn p (l.getD k nilN).mix) ?_
 |(with_reducible refine K_ca 123 ?_); refine zC (way_fn p m l k hN (by omega) (by omega)) ?_
 |(with_reducible refine blk_at (id := 0) ?_); ((with_reducible refine JL.loopW 0 1099 (fun (k : Nat) tm => (9, .one false [.d (.v (.int .i64 ((k : Int))))]) :: tm) (fun (k : Nat) bo => bo) (fun (k : Nat) => k ≤ l.length ∧ ∀ j, j < k → goalP p (l.getD j nilN).mix = false) (fun (k : Nat) => l.length - k) (0) ?_ (fun k hk => ?_) ?_); (focus (apply SubW [] rfl ?_ ?_ rfl ?_; (repeat' (first | exact kA | refine kB ?_ | refine kC ?_ ?_ | exact kD | fail)))))
 |((with_reducible refine round_next (i := k) (k + 1) ?_ ?_ ?_); (focus (apply SubW [] rfl ?_ ?_ rfl ?_; (repeat' (first | exact kA | refine kB ?_ | refine kC ?_ ?_ | exact kD | fail)))))
 |refine wA ?_
 |(refine wC ?_ ?_ <;> intro hc)
 |refine wB ?_ ?_
 |(with_reducible refine JL.block ?_)
 |(with_reducible refine F_at ?_); refine eW (vs := [(_, _), (_, _)]) Tryz.results90 ?_; (focus (repeat' (first | exact oA | refine oB ?_ | refine oC ?_ ?_ | fail)))
 |exact oM
 |fail)
    all_goals first
     | rfl
     | (rw [fromL_at (k := k) (by omega) hk.2 hc] <;> rfl)
     | (rw [fromL_no (fun j hj => hk.2 j (by omega))] <;> rfl)
     | exact ⟨Nat.zero_le _, fun j hj => absurd hj (Nat.not_lt_zero j)⟩
     | (refine ⟨by omega, fun j hj => ?_⟩; by_cases e : j = k; (subst e; exact hc); exact hk.2 j (by omega))
     | trace_state
 ·have e : fromP p m = ([], mixErr p m) := by unfold fromP; rw [if_pos h]
  rw [e]
  refine startW (tm := [(0, _), (1, _)]) Tryz.func90 rfl Tryz.ntmps90 rfl rfl rfl rfl ?_
  repeat' (first
 |(with_reducible refine rgn 12 1200 ?_ ?_); exact rfl
 |(with_reducible refine rgn 13 1300 ?_ ?_); exact rfl
 |(with_reducible refine rgn 11 1400 ?_ ?_); exact rfl
 |(with_reducible refine K_ca 66 ?_); refine zC (mixValid_fn p m) ?_
 |(with_reducible refine K_ca 27 ?_); refine zC (robust_fn p m (mixIn_of (by assumption))) ?_
 |(with_reducible refine K_ca 44 ?_); refine zC (space_fn p m 20000 (hm (by assumption)) (by simpa using ‹robustP p m = true›) (by omega)) ?_
 |refine wA ?_
 |(refine wC ?_ ?_ <;> intro hc)
 |refine wB ?_ ?_
 |(with_reducible refine JL.block ?_)
 |(with_reducible refine F_at ?_); refine eW (vs := [(_, _), (_, _)]) Tryz.results90 ?_; (focus (repeat' (first | exact oA | refine oB ?_ | refine oC ?_ ?_ | fail)))
 |exact oM
 |fail)
  all_goals first | rfl | exact absurd (by assumption) h | trace_state
theorem findOK_fn (p : Prob) (h : vpErr p = 0) : FnSound Tryz.prog 57 [.val true (probC p)] [] { vals := [(false, [.d (.sl 3 (dSteps (findP p).1))]), (false, [.d (.v (.int .i64 (findP p).2))])] } := by
 have e : findP p = fromP p (startM p) := by unfold findP; rw [if_neg (by simpa using h)]
 rw [e]
 refine startW (tm := [(0, _)]) Tryz.func57 rfl Tryz.ntmps57 rfl rfl rfl rfl ?_
 repeat' (first
 |(with_reducible refine K_ca 43 ?_); refine zC (start_fn p h) ?_
 |(with_reducible refine K_ca 90 ?_); refine zC (from_fn p (startM p) (fun _ => start_g h)) ?_
 |refine wA ?_
 |(refine wC ?_ ?_ <;> intro hc)
 |refine wB ?_ ?_
 |(with_reducible refine JL.block ?_)
 |(with_reducible refine F_at ?_); refine eW (vs := [(_, _), (_, _)]) Tryz.results57 ?_; (focus (repeat' (first | exact oA | refine oB ?_ | refine oC ?_ ?_ | fail)))
 |exact oM
 |fail)
 all_goals rfl
theorem lightOK_fn (p : Prob) (h : vpErr p = 0) (most : Nat) (h1 : 1 ≤ most ∧ most ≤ 20000) : FnSound Tryz.prog 12 [.val true (probC p), .val false [.d (.v (.int .i64 (most : Int)))]] [] { vals := [(false, [.d (.v (.bool (lightP p most)))])] } := by
 have hrf := robust_fn p (startM p) (start_g h).inn
 cases hr : robustP p (startM p) with
 | false =>
  rw [hr] at hrf
  have e : lightP p most = true := by unfold lightP; rw [hr]; simp
  rw [e]
  refine startW (tm := [(0, _), (1, _)]) Tryz.func12 rfl Tryz.ntmps12 rfl rfl rfl rfl ?_
  repeat' (first
 |(with_reducible refine K_ca 43 ?_); refine zC (start_fn p h) ?_
 |(with_reducible refine K_ca 27 ?_); refine zC (hrf) ?_
 |refine wA ?_
 |(refine wC ?_ ?_ <;> intro hc)
 |refine wB ?_ ?_
 |(with_reducible refine JL.block ?_)
 |(with_reducible refine F_at ?_); refine eW (vs := [(_, _)]) Tryz.results12 ?_; (focus (repeat' (first | exact oA | refine oB ?_ | refine oC ?_ ?_ | fail)))
 |exact oM
 |fail)
  all_goals rfl
 | true =>
  rw [hr] at hrf
  have e : lightP p most = (spaceP p (startM p) most).isSome := by unfold lightP; rw [hr]; simp [h]
  rw [e]
  refine startW (tm := [(0, _), (1, _)]) Tryz.func12 rfl Tryz.ntmps12 rfl rfl rfl rfl ?_
  repeat' (first
 |(with_reducible refine K_ca 43 ?_); refine zC (start_fn p h) ?_
 |(with_reducible refine K_ca 27 ?_); refine zC (hrf) ?_
 |(with_reducible refine K_ca 44 ?_); refine zC (space_fn p (startM p) most (start_g h) hr h1) ?_
 |refine wA ?_
 |(refine wC ?_ ?_ <;> intro hc)
 |refine wB ?_ ?_
 |(with_reducible refine JL.block ?_)
 |(with_reducible refine F_at ?_); refine eW (vs := [(_, _)]) Tryz.results12 ?_; (focus (repeat' (first | exact oA | refine oB ?_ | refine oC ?_ ?_ | fail)))
 |exact oM
 |fail)
  all_goals rfl
theorem blameA_fn (p : Prob) (m : MixD) : FnSound Tryz.prog 117 [.val true (probC p), .val true (mixC m)] [] { vals := [(true, mixC (blameP p m).1), (true, confC (blameP p m).2.1), (false, [.d (.v (.int .i64 (blameP p m).2.2))])] } := by
 by_cases h : mixErr p m = 0
 ·exact blame_fn p m h
 ·exact blame0_fn p m h
theorem failL_at {p : Prob} {m : MixD} {l : List StepD} {k : Nat} {i : Int} (hk : k < l.length) : failL p m (l.drop k) i = if ¬ (applyP p m (l.getD k nilS)).2 = 0 ∨ (l.getD k nilS).kind = 4 then (i, nilM, nilC, 0)
    else if (blameP p (applyP p m (l.getD k nilS)).1).2.2 = 0 then (i, (blameP p (applyP p m (l.getD k nilS)).1).1, (blameP p (applyP p m (l.getD k nilS)).1).2.1, 0)
    else failL p (applyP p m (l.getD k nilS)).1 (l.drop (k + 1)) (i + 1) := by
 rw [dropD_cons (d := nilS) hk]; rfl
def nxF (p : Prob) (l : List StepD) (y : Nat × MixD) : Nat × MixD := (y.1 + 1, if y.1 = 0 then y.2 else (applyP p y.2 (l.getD ((y.1 : Int) - 1).toNat nilS)).1)
abbrev FI (p : Prob) (l : List StepD) (y : Nat × MixD) : Prop := y.1 ≤ l.length + 1 ∧ (y.1 = 0 → y.2 = startM p) ∧ (1 ≤ y.1 → failL p y.2 (l.drop (y.1 - 1)) ((y.1 : Int) - 1) = failP p l)
theorem fl_err {p : Prob} {l : List StepD} {y : Nat × MixD} (hy : FI p l y) (h1 : 1 ≤ y.1) (h2 : y.1 ≤ l.length) (h : ¬ (applyP p y.2 (l.getD ((y.1 : Int) - 1).toNat nilS)).2 = 0 ∨ (l.getD ((y.1 : Int) - 1).toNat nilS).kind = 4) : failP p l = ((y.1 : Int) - 1, nilM, nilC, 0) := by
 rw [show ((y.1 : Int) - 1).toNat = y.1 - 1 by omega] at h
 rw [← hy.2.2 h1, failL_at (by omega), if_pos h]
theorem fl_bl {p : Prob} {l : List StepD} {y : Nat × MixD} (hy : FI p l y) (h1 : 1 ≤ y.1) (h2 : y.1 ≤ l.length) (h3 : (applyP p y.2 (l.getD ((y.1 : Int) - 1).toNat nilS)).2 = 0) (h4 : ¬ (l.getD ((y.1 : Int) - 1).toNat nilS).kind = 4) (h : (blameP p (applyP p y.2 (l.getD ((y.1 : Int) - 1).toNat nilS)).1).2.2 = 0) : failP p l = ((y.1 : Int) - 1, (blameP p (applyP p y.2 (l.getD ((y.1 : Int) - 1).toNat nilS)).1).1, (blameP p (applyP p y.2 (l.getD ((y.1 : Int) - 1).toNat nilS)).1).2.1, 0) := by
 rw [show ((y.1 : Int) - 1).toNat = y.1 - 1 by omega] at h h3 h4 ⊢
 rw [← hy.2.2 h1, failL_at (by omega), if_neg (by rintro (a | a); exact a h3; exact h4 a), if_pos h]
theorem fl_b0 {p : Prob} {l : List StepD} {y : Nat × MixD} (hv : vpErr p = 0) (hy : FI p l y) (h1 : y.1 = 0) (h : (blameP p y.2).2.2 = 0) : failP p l = ((y.1 : Int) - 1, (blameP p y.2).1, (blameP p y.2).2.1, 0) := by
 have e := hy.2.1 h1
 rw [e] at h ⊢
 unfold failP
 rw [if_neg (by simpa using hv), if_pos h, h1]; rfl
theorem fl_nx {p : Prob} {l : List StepD} {y : Nat × MixD} (hy : FI p l y) (h1 : 1 ≤ y.1) (h2 : y.1 ≤ l.length) (h3 : (applyP p y.2 (l.getD ((y.1 : Int) - 1).toNat nilS)).2 = 0) (h4 : ¬ (l.getD ((y.1 : Int) - 1).toNat nilS).kind = 4) (h : ¬ (blameP p (applyP p y.2 (l.getD ((y.1 : Int) - 1).toNat nilS)).1).2.2 = 0) : FI p l (nxF p l y) := by
 refine ⟨by show y.1 + 1 ≤ _; omega, fun a => absurd a (Nat.succ_ne_zero _), fun _ => ?_⟩
 show failL p (if y.1 = 0 then y.2 else _) (l.drop (y.1 + 1 - 1)) (((y.1 + 1 : Nat) : Int) - 1) = _
 rw [if_neg (by omega)]
 rw [show ((y.1 : Int) - 1).toNat = y.1 - 1 by omega] at h h3 h4 ⊢
 rw [← hy.2.2 h1, failL_at (k := y.1 - 1) (by omega), if_neg (by rintro (a | a); exact a h3; exact h4 a), if_neg h]
 rw [show y.1 + 1 - 1 = y.1 - 1 + 1 by omega, show ((y.1 + 1 : Nat) : Int) - 1 = (y.1 : Int) - 1 + 1 by omega]
theorem fl_n0 {p : Prob} {l : List StepD} {y : Nat × MixD} (hv : vpErr p = 0) (hy : FI p l y) (h1 : y.1 = 0) (h : ¬ (blameP p y.2).2.2 = 0) : FI p l (nxF p l y) := by
 have e := hy.2.1 h1
 refine ⟨by show y.1 + 1 ≤ _; omega, fun a => absurd a (Nat.succ_ne_zero _), fun _ => ?_⟩
 show failL p (if y.1 = 0 then y.2 else _) (l.drop (y.1 + 1 - 1)) (((y.1 + 1 : Nat) : Int) - 1) = _
 rw [if_pos h1]
 rw [e] at h ⊢
 unfold failP
 rw [if_neg (by simpa using hv), if_neg h, h1]; rfl
theorem fl_end {p : Prob} {l : List StepD} {y : Nat × MixD} (hy : FI p l y) (h1 : l.length < y.1) : failP p l = if goalP p y.2 = true then (0, nilM, nilC, 15) else ((l.length : Int), nilM, nilC, 14) := by
 have e : y.1 = l.length + 1 := by have := hy.1; omega
 rw [← hy.2.2 (by omega), List.drop_eq_nil_of_le (by omega), e, show ((l.length + 1 : Nat) : Int) - 1 = (l.length : Int) by omega]
 rfl
theorem fail_fn (p : Prob) (l : List StepD) (h : vpErr p = 0) (hl : l.length ≤ 1000000) : FnSound Tryz.prog 83 [.val true (probC p), .val false [.d (.sl 3 (dSteps l))]] [] { vals := [(false, [.d (.v (.int .i64 (failP p l).1))]), (true, mixC (failP p l).2.1), (true, confC (failP p l).2.2.1), (false, [.d (.v (.int .i64 (failP p l).2.2.2))])] } := by
 refine startW (tm := [(0, _), (1, _)]) Tryz.func83 rfl Tryz.ntmps83 rfl rfl rfl rfl ?_
 repeat' (first
 |(with_reducible refine rgn 7 700 ?_ ?_); exact rfl
 |(with_reducible refine rgn 8 800 ?_ ?_); exact rfl
 |(with_reducible refine rgn 9 900 ?_ ?_); exact rfl
 |(with_reducible refine rgn 10 1000 ?_ ?_); exact rfl
 |(with_reducible refine rgn 11 1100 ?_ ?_); exact rfl
 |(with_reducible refine rgn 12 1200 ?_ ?_); exact rfl
 |(with_reducible refine rgn 13 1300 ?_ ?_); exact rfl
 |(with_reducible refine rgn 14 1400 ?_ ?_); exact rfl
 |(with_reducible refine rgn 6 1500 ?_ ?_); exact rfl
 |(with_reducible refine K_ca 43 ?_); refine zC (start_fn p h) ?_
 |(with_reducible refine K_ca 110 ?_); refine zC (apply_fn p y.2 (l.getD ((y.1 : Int) - 1).toNat nilS)) ?_
 |(with_reducible refine K_ca 117 ?_); (first
 |refine zC (blameA_fn p y.2) ?_
 |refine zC (blameA_fn p (applyP p y.2 (l.getD ((y.1 : Int) - 1).toNat nilS)).1) ?_)
 |(with_reducible refine K_ca 31 ?_); refine zC (goal_fn p y.2) ?_
 |(with_reducible refine blk_at (id := 0) ?_); ((with_reducible refine JL.loopW 0 599 (fun (y : Nat × MixD) tm => (10, .one false [.d (.v (.int .i64 (((y.1 : Int) - 1))))]) :: tm) (fun (y : Nat × MixD) bo => ((320, 200), some (.st 37 [.d (.sl 1 ((dInts y.2.base))), .d (.sl 1 ((dInts y.2.next))), .d (.sl 1 ((dSets y.2.held)))])) :: bo) (fun (y : Nat × MixD) => FI p l y) (fun (y : Nat × MixD) => l.length + 2 - y.1) ((0, startM p)) ?_ (fun y hy => have hy1 := hy.1; ?_) ?_); (focus (apply SubW [] rfl ?_ ?_ rfl ?_; (repeat' (first | exact kA | refine kB ?_ | refine kC ?_ ?_ | exact kD | fail)))))
 |((with_reducible refine round_next (i := y) (nxF p l y) ?_ ?_ ?_); (focus (apply SubW [] rfl ?_ ?_ rfl ?_; (repeat' (first | exact kA | refine kB ?_ | refine kC ?_ ?_ | exact kD | fail)))))
 |refine wA ?_
 |(refine wC ?_ ?_ <;> intro hc)
 |refine wB ?_ ?_
 |(with_reducible refine JL.block ?_)
 |(with_reducible refine F_at ?_); refine eW (vs := [(_, _), (_, _), (_, _), (_, _)]) Tryz.results83 ?_; (focus (repeat' (first | exact oA | refine oB ?_ | refine oC ?_ ?_ | fail)))
 |exact oM
 |fail)
 all_goals first
  | rfl
  | (rw [fl_err hy (by omega) (by omega) (.inl hc)] <;> rfl)
  | (rw [fl_err hy (by omega) (by omega) (.inr hc)] <;> rfl)
  | (rw [fl_bl hy (by omega) (by omega) (by assumption) (by assumption) hc] <;> rfl)
  | (rw [fl_b0 h hy (by omega) hc] <;> rfl)
  | exact fl_nx hy (by omega) (by omega) (by assumption) (by assumption) hc
  | exact fl_n0 h hy (by omega) hc
  | (unfold nxF; dsimp only; rw [if_neg (by omega)]; done)
  | (unfold nxF; dsimp only; rw [if_pos (by omega)]; done)
  | (unfold nxF; dsimp only; omega)
  | (rw [fl_end hy (by omega), if_pos (by grind)] <;> rfl)
  | (rw [fl_end hy (by omega), if_neg (by grind)] <;> rfl)
  | exact ⟨Nat.zero_le _, fun _ => rfl, fun a => absurd a (Nat.not_succ_le_zero 0)⟩
  | trace_state
end Go.Proofs.YtdpeoolildjohaaGreatDoor

