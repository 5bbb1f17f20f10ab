/- Rules of runs and contracts of functions, for the claims of one seat. -/
import Derived.Test.YtfnljcallbalgaaGreatDoorUA1
import Derived.Test.YtfnljcallbalgaaGreatDoorUA10
import Derived.Test.YtfnljcallbalgaaGreatDoorUA13
import Derived.Test.YtfnljcallbalgaaGreatDoorUA27
import Derived.Test.YtfnljcallbalgaaGreatDoorUA30
import Derived.Test.YtfnljcallbalgaaGreatDoorUA31
import Derived.Test.YtfnljcallbalgaaGreatDoorUA32
import Derived.Test.YtfnljcallbalgaaGreatDoorUA33
import Derived.Test.YtfnljcallbalgaaGreatDoorUA34
import Derived.Test.YtfnljcallbalgaaGreatDoorUA35
namespace Go.Proofs.YtfnljcallbalgaaGreatDoor
open Go Go.RowKit
set_option maxRecDepth 100000
set_option maxHeartbeats 8000000
theorem B0_ok : TabB Tryz.prog B0 := trivial
theorem T1_ok : TabOk Tryz.prog T1 := ⟨annW_ok T0_ok B0_ok 60 _ _ _ _ run1, T0_ok⟩
theorem T2_ok : TabOk Tryz.prog T2 := ⟨annW_ok T1_ok B0_ok 60 _ _ _ _ run2, T1_ok⟩
theorem T3_ok : TabOk Tryz.prog T3 := ⟨annW_ok T2_ok B0_ok 60 _ _ _ _ run3, T2_ok⟩
theorem T4_ok : TabOk Tryz.prog T4 := ⟨annW_ok T3_ok B0_ok 60 _ _ _ _ run4, T3_ok⟩
theorem T5_ok : TabOk Tryz.prog T5 := ⟨annW_ok T4_ok B0_ok 60 _ _ _ _ run5, T4_ok⟩
theorem T6_ok : TabOk Tryz.prog T6 := ⟨annD_ok T5_ok 60 _ _ _ _ run6, T5_ok⟩
theorem B1_ok : TabB Tryz.prog B1 := ⟨annW_ok T6_ok B0_ok 60 _ _ _ _ runB1, B0_ok⟩
theorem T7_ok : TabOk Tryz.prog T7 := ⟨annW_ok T6_ok B1_ok 60 _ _ _ _ run7, T6_ok⟩
theorem T8_ok : TabOk Tryz.prog T8 := ⟨annW_ok T7_ok B1_ok 60 _ _ _ _ run8, T7_ok⟩
theorem T9_ok : TabOk Tryz.prog T9 := ⟨annW_ok T8_ok B1_ok 60 _ _ _ _ run9, T8_ok⟩
theorem T10_ok : TabOk Tryz.prog T10 := ⟨annW_ok T9_ok B1_ok 60 _ _ _ _ run10, T9_ok⟩
theorem T11_ok : TabOk Tryz.prog T11 := ⟨annW_ok T10_ok B1_ok 60 _ _ _ _ run11, T10_ok⟩
theorem B2_ok : TabB Tryz.prog B2 := ⟨annW_ok T11_ok B1_ok 60 _ _ _ _ runB2, B1_ok⟩
theorem B3_ok : TabB Tryz.prog B3 := ⟨annW_ok T11_ok B2_ok 60 _ _ _ _ runB3, B2_ok⟩
theorem B4_ok : TabB Tryz.prog B4 := ⟨annW_ok T11_ok B3_ok 60 _ _ _ _ runB4, B3_ok⟩
theorem B5_ok : TabB Tryz.prog B5 := ⟨annW_ok T11_ok B4_ok 60 _ _ _ _ runB5, B4_ok⟩
theorem B6_ok : TabB Tryz.prog B6 := ⟨annW_ok T11_ok B5_ok 60 _ _ _ _ runB6, B5_ok⟩
theorem B7_ok : TabB Tryz.prog B7 := ⟨annW_ok T11_ok B6_ok 60 _ _ _ _ runB7, B6_ok⟩
theorem T12_ok : TabOk Tryz.prog T12 := ⟨annW_ok T11_ok B7_ok 60 _ _ _ _ run12, T11_ok⟩
theorem T13_ok : TabOk Tryz.prog T13 := ⟨annW_ok T12_ok B7_ok 60 _ _ _ _ run13, T12_ok⟩
theorem T14_ok : TabOk Tryz.prog T14 := ⟨annW_ok T13_ok B7_ok 60 _ _ _ _ run14, T13_ok⟩
theorem T15_ok : TabOk Tryz.prog T15 := ⟨annW_ok T14_ok B7_ok 60 _ _ _ _ run15, T14_ok⟩
theorem awake59_fn : FnSound Tryz.prog 4 [] [] { vals := [(false, [.d (.v (.bool true))])] } := annW_ok T15_ok B7_ok 60 _ _ _ _ awake_run
end Go.Proofs.YtfnljcallbalgaaGreatDoor

namespace Go.Proofs.YtfnljcallbalgaaGreatDoor
open Go Go.RowKit
set_option maxRecDepth 100000
set_option maxHeartbeats 8000000
set_option linter.unusedSimpArgs false
set_option linter.unusedVariables false
theorem same59_fn : FnSound Tryz.prog 11 [.val true [.zero, .zero, .zero, .zero, .zero, .zero, .d (.v (.int .i64 0)), .zero], .val true [.zero, .zero, .zero, .zero, .zero, .zero, .d (.v (.int .i64 0)), .zero]] [] { vals := [(false, [.d (.v (.bool true))])] } := annT_ok T0_ok 60 _ _ _ _ (by kernel_rfl)
theorem sce_few (p : Prob) (rs : List Int) (l : List StepD) (ttl : Int) (ch : List (List D)) (n : Int) (hf : FnSound Tryz.prog 5 [.val true [.d (.sl 1 (dInts p.vs)), .d (.sl 1 (dInts p.now)), .d (.sl 1 (dInts p.tgt)), .d (.sl 6 (dTabs p.tabs)), .d (.sl 1 (dInts rs)), .d (.sl 3 (dSteps l)), .d (.v (.int .i64 ttl)), .d (.sl 1 ch)]] [] { vals := [(false, [.d (.v (.bool false))])] }) : FnSound Tryz.prog 3 [.val true [.d (.sl 1 (dInts p.vs)), .d (.sl 1 (dInts p.now)), .d (.sl 1 (dInts p.tgt)), .d (.sl 6 (dTabs p.tabs)), .d (.sl 1 (dInts rs)), .d (.sl 3 (dSteps l)), .d (.v (.int .i64 ttl)), .d (.sl 1 ch)], .val false [.d (.v (.int .i64 n))]] [] { vals := [(false, [.d (.v (.bool true))])] } := by
 refine startW (tm := [(0, _), (1, _)]) Tryz.func3 rfl Tryz.ntmps3 rfl rfl rfl rfl ?_
 repeat' (first
 |(with_reducible refine K_ca 4 ?_); refine zC (awake59_fn) ?_
 |(with_reducible refine K_ca 5 ?_); refine zC (hf) ?_
 |refine wA ?_
 |(refine wC ?_ ?_ <;> intro hc)
 |refine wB ?_ ?_
 |(with_reducible refine JL.block ?_)
 |(with_reducible refine F_at ?_); refine eW (vs := [(_, _)]) Tryz.results3 ?_; (focus (repeat' (first | exact oA | refine oB ?_ | refine oC ?_ ?_ | fail)))
 |exact oM
 |fail)
 all_goals first | rfl | (exfalso; omega) | (simp; done) | (simp; omega) | trace_state
theorem sce_long (p : Prob) (rs : List Int) (l : List StepD) (ttl : Int) (ch : List (List D)) (n : Int) (hf : FnSound Tryz.prog 5 [.val true [.d (.sl 1 (dInts p.vs)), .d (.sl 1 (dInts p.now)), .d (.sl 1 (dInts p.tgt)), .d (.sl 6 (dTabs p.tabs)), .d (.sl 1 (dInts rs)), .d (.sl 3 (dSteps l)), .d (.v (.int .i64 ttl)), .d (.sl 1 ch)]] [] { vals := [(false, [.d (.v (.bool true))])] }) (h1 : ¬ l.length ≤ 30) : FnSound Tryz.prog 3 [.val true [.d (.sl 1 (dInts p.vs)), .d (.sl 1 (dInts p.now)), .d (.sl 1 (dInts p.tgt)), .d (.sl 6 (dTabs p.tabs)), .d (.sl 1 (dInts rs)), .d (.sl 3 (dSteps l)), .d (.v (.int .i64 ttl)), .d (.sl 1 ch)], .val false [.d (.v (.int .i64 n))]] [] { vals := [(false, [.d (.v (.bool true))])] } := by
 refine startW (tm := [(0, _), (1, _)]) Tryz.func3 rfl Tryz.ntmps3 rfl rfl rfl rfl ?_
 repeat' (first
 |(with_reducible refine K_ca 4 ?_); refine zC (awake59_fn) ?_
 |(with_reducible refine K_ca 5 ?_); refine zC (hf) ?_
 |refine wA ?_
 |(refine wC ?_ ?_ <;> intro hc)
 |refine wB ?_ ?_
 |(with_reducible refine JL.block ?_)
 |(with_reducible refine F_at ?_); refine eW (vs := [(_, _)]) Tryz.results3 ?_; (focus (repeat' (first | exact oA | refine oB ?_ | refine oC ?_ ?_ | fail)))
 |exact oM
 |fail)
 all_goals first | rfl | (exfalso; omega) | (simp; done) | (simp; omega) | trace_state
theorem sce_ok (p : Prob) (rs : List Int) (l : List StepD) (ttl : Int) (ch : List (List D)) (n : Int) (hf : FnSound Tryz.prog 5 [.val true [.d (.sl 1 (dInts p.vs)), .d (.sl 1 (dInts p.now)), .d (.sl 1 (dInts p.tgt)), .d (.sl 6 (dTabs p.tabs)), .d (.sl 1 (dInts rs)), .d (.sl 3 (dSteps l)), .d (.v (.int .i64 ttl)), .d (.sl 1 ch)]] [] { vals := [(false, [.d (.v (.bool true))])] }) (h1 : l.length ≤ 30) (hrs : rs.length ≤ 10) (h : worldErr p rs l ttl = 0) (hn : ¬ (n < 0 ∨ 3 < n)) : FnSound Tryz.prog 3 [.val true [.d (.sl 1 (dInts p.vs)), .d (.sl 1 (dInts p.now)), .d (.sl 1 (dInts p.tgt)), .d (.sl 6 (dTabs p.tabs)), .d (.sl 1 (dInts rs)), .d (.sl 3 (dSteps l)), .d (.v (.int .i64 ttl)), .d (.sl 1 ch)], .val false [.d (.v (.int .i64 n))]] [] { vals := [(false, [.d (.v (.bool true))])] } := by
 have a2 := rworld_ok p rs l ttl (by omega) (by omega) h
 refine startW (tm := [(0, _), (1, _)]) Tryz.func3 rfl Tryz.ntmps3 rfl rfl rfl rfl ?_
 repeat' (first
 |(with_reducible refine K_ca 4 ?_); refine zC (awake59_fn) ?_
 |(with_reducible refine K_ca 5 ?_); refine zC (hf) ?_
 |(with_reducible refine K_ca 6 ?_); refine zC (a2) ?_
 |refine wA ?_
 |(refine wC ?_ ?_ <;> intro hc)
 |refine wB ?_ ?_
 |(with_reducible refine JL.block ?_)
 |(with_reducible refine F_at ?_); refine eW (vs := [(_, _)]) Tryz.results3 ?_; (focus (repeat' (first | exact oA | refine oB ?_ | refine oC ?_ ?_ | fail)))
 |exact oM
 |fail)
 all_goals first | rfl | (exfalso; omega) | (simp; done) | (simp; omega) | trace_state
theorem sce_range (p : Prob) (rs : List Int) (l : List StepD) (ttl : Int) (ch : List (List D)) (n : Int) (hf : FnSound Tryz.prog 5 [.val true [.d (.sl 1 (dInts p.vs)), .d (.sl 1 (dInts p.now)), .d (.sl 1 (dInts p.tgt)), .d (.sl 6 (dTabs p.tabs)), .d (.sl 1 (dInts rs)), .d (.sl 3 (dSteps l)), .d (.v (.int .i64 ttl)), .d (.sl 1 ch)]] [] { vals := [(false, [.d (.v (.bool true))])] }) (h1 : l.length ≤ 30) (hrs : rs.length ≤ 10) (h : worldErr p rs l ttl = 0) (hn : n < 0 ∨ 3 < n) : FnSound Tryz.prog 3 [.val true [.d (.sl 1 (dInts p.vs)), .d (.sl 1 (dInts p.now)), .d (.sl 1 (dInts p.tgt)), .d (.sl 6 (dTabs p.tabs)), .d (.sl 1 (dInts rs)), .d (.sl 3 (dSteps l)), .d (.v (.int .i64 ttl)), .d (.sl 1 ch)], .val false [.d (.v (.int .i64 n))]] [] { vals := [(false, [.d (.v (.bool true))])] } := by
 have a2 := rworld_ok p rs l ttl (by omega) (by omega) h
 have a3 := sexpl_range p rs l ttl n (by omega) (by omega) h hn
 refine startW (tm := [(0, _), (1, _)]) Tryz.func3 rfl Tryz.ntmps3 rfl rfl rfl rfl ?_
 repeat' (first
 |(with_reducible refine K_ca 4 ?_); refine zC (awake59_fn) ?_
 |(with_reducible refine K_ca 5 ?_); refine zC (hf) ?_
 |(with_reducible refine K_ca 6 ?_); refine zC (a2) ?_
 |(with_reducible refine K_ca 7 ?_); refine zC (a3) ?_
 |refine wA ?_
 |(refine wC ?_ ?_ <;> intro hc)
 |refine wB ?_ ?_
 |(with_reducible refine JL.block ?_)
 |(with_reducible refine F_at ?_); refine eW (vs := [(_, _)]) Tryz.results3 ?_; (focus (repeat' (first | exact oA | refine oB ?_ | refine oC ?_ ?_ | fail)))
 |exact oM
 |fail)
 all_goals first | rfl | (exfalso; omega) | (simp; done) | (simp; omega) | trace_state
theorem sce_err (p : Prob) (rs : List Int) (l : List StepD) (ttl : Int) (ch : List (List D)) (n : Int) (hf : FnSound Tryz.prog 5 [.val true [.d (.sl 1 (dInts p.vs)), .d (.sl 1 (dInts p.now)), .d (.sl 1 (dInts p.tgt)), .d (.sl 6 (dTabs p.tabs)), .d (.sl 1 (dInts rs)), .d (.sl 3 (dSteps l)), .d (.v (.int .i64 ttl)), .d (.sl 1 ch)]] [] { vals := [(false, [.d (.v (.bool true))])] }) (h1 : l.length ≤ 30) (hrs : rs.length ≤ 10) (h : ¬ worldErr p rs l ttl = 0) : FnSound Tryz.prog 3 [.val true [.d (.sl 1 (dInts p.vs)), .d (.sl 1 (dInts p.now)), .d (.sl 1 (dInts p.tgt)), .d (.sl 6 (dTabs p.tabs)), .d (.sl 1 (dInts rs)), .d (.sl 3 (dSteps l)), .d (.v (.int .i64 ttl)), .d (.sl 1 ch)], .val false [.d (.v (.int .i64 n))]] [] { vals := [(false, [.d (.v (.bool true))])] } := by
 have a2 := rworld_no p rs l ttl (by omega) (by omega) h
 have a3 := srunRun_no p rs l ttl (by omega) (by omega) h
 have a4 := sexpl_no p rs l ttl n (by omega) (by omega) h
 have a5 := sshrink_no p rs l ttl (by omega) (by omega) h
 have a6 := scount_no p rs l ttl (by omega) (by omega) h
 generalize worldErr p rs l ttl = e at *
 refine startW (tm := [(0, _), (1, _)]) Tryz.func3 rfl Tryz.ntmps3 rfl rfl rfl rfl ?_
 repeat' (first
 |(with_reducible refine K_ca 4 ?_); refine zC (awake59_fn) ?_
 |(with_reducible refine K_ca 5 ?_); refine zC (hf) ?_
 |(with_reducible refine K_ca 6 ?_); refine zC (a2) ?_
 |(with_reducible refine K_ca 7 ?_); refine zC (a4) ?_
 |(with_reducible refine K_ca 8 ?_); refine zC (a3) ?_
 |(with_reducible refine K_ca 9 ?_); refine zC (a5) ?_
 |(with_reducible refine K_ca 10 ?_); refine zC (a6) ?_
 |(with_reducible refine K_ca 11 ?_); refine zC (same59_fn) ?_
 |refine wA ?_
 |(refine wC ?_ ?_ <;> intro hc)
 |refine wB ?_ ?_
 |(with_reducible refine JL.block ?_)
 |(with_reducible refine F_at ?_); refine eW (vs := [(_, _)]) Tryz.results3 ?_; (focus (repeat' (first | exact oA | refine oB ?_ | refine oC ?_ ?_ | fail)))
 |exact oM
 |fail)
 all_goals first | rfl | (exfalso; omega) | (simp; done) | (simp; omega) | trace_state
theorem scenarioErrors_law (p : Prob) (rs : List Int) (l : List StepD) (ttl : Int) (ch : List (List D)) (n : Int) : FnSound Tryz.prog 3 [.val true [.d (.sl 1 (dInts p.vs)), .d (.sl 1 (dInts p.now)), .d (.sl 1 (dInts p.tgt)), .d (.sl 6 (dTabs p.tabs)), .d (.sl 1 (dInts rs)), .d (.sl 3 (dSteps l)), .d (.v (.int .i64 ttl)), .d (.sl 1 ch)], .val false [.d (.v (.int .i64 n))]] [] { vals := [(false, [.d (.v (.bool true))])] } := by
 have hf := few59_fn p rs l ttl ch
 by_cases hg : (fewP p && (decide (rs.length ≤ 10) && (decide (l.length ≤ 110) && decide (ch.length ≤ 1010)))) = true
 ·rw [hg] at hf
  have hrs : rs.length ≤ 10 := by simp at hg; exact hg.2.1
  by_cases h1 : l.length ≤ 30
  ·by_cases h : worldErr p rs l ttl = 0
   ·by_cases hn : n < 0 ∨ 3 < n
    ·exact sce_range p rs l ttl ch n hf h1 hrs h hn
    ·exact sce_ok p rs l ttl ch n hf h1 hrs h hn
   ·exact sce_err p rs l ttl ch n hf h1 hrs h
  ·exact sce_long p rs l ttl ch n hf h1
 ·simp only [Bool.not_eq_true] at hg
  rw [hg] at hf
  exact sce_few p rs l ttl ch n hf
end Go.Proofs.YtfnljcallbalgaaGreatDoor

namespace Go.Proofs.YtfnljcallbalgaaGreatDoor
open Go.ChangeShapes Go.WideShapes Go.ChangeAt Go.RowKit Go.Joins Go.Deep
set_option linter.unusedSimpArgs false
set_option linter.unusedVariables false
set_option maxRecDepth 100000
theorem pick_list {α : Type} {n : Nat} {p : Nat → α → Prop} (h : ∀ i, i < n → ∃ e, p i e) : ∃ l : List α, l.length = n ∧ ∀ i (hi : i < l.length), p i l[i] := by
 induction n with
 | zero => exact ⟨[], rfl, fun i hi => by simp at hi⟩
 | succ n ih =>
  obtain ⟨l, h1, h2⟩ := ih (fun i hi => h i (by omega))
  obtain ⟨e, he⟩ := h n (by omega)
  refine ⟨l ++ [e], by simp [h1], fun i hi => ?_⟩
  by_cases hc : i < l.length
  ·rw [List.getElem_append_left hc]; exact h2 i hc
  ·have : i = l.length := by simp at hi; omega
   subst this
   rw [List.getElem_append_right (Nat.le_refl _)]
   simpa [h1] using he
section
variable {H : Type} {enc : TypeId × Value → H} {P : Program} {w : World} {base : Nat} {spare : Nat → Bool} {held : Bool}
def Sz (P : Program) (t : TypeId) (d : DataW H) : Prop := ∀ n ∈ d.weights P t, n ≤ reachBytes
theorem sz_arg {ts : List TypeId} {ds : List (DataW H)} (h : (DataW.weightsEach P ts ds).all (· ≤ reachBytes) = true) {j : Nat} {t : TypeId} {d : DataW H} (ht : ts[j]? = some t) (hd : ds[j]? = some d) : Sz P t d := fun n hn => by
 have := List.all_eq_true.1 h _ (DataW.weights_mem_each ht hd n hn)
 simpa using this
theorem weightsAll_mem {e : TypeId} : ∀ {l : List (DataW H)} {d : DataW H}, d ∈ l → ∀ n ∈ d.weights P e, n ∈ DataW.weightsAll P e l
 | a :: l, d, hd, n, hn => by
  simp only [DataW.weightsAll, List.mem_append]
  rcases List.mem_cons.1 hd with rfl | hd
  ·exact Or.inl hn
  ·exact Or.inr (weightsAll_mem hd n hn)
theorem trod_fields {t : TypeId} {fs : Array Field} {fuel : Nat} {cs : List Value} {x : DataW H × List MemPlace} (ht : P.underlying t = some (.struct fs)) (hs : Sz P t x.1) (h : DataW.trod enc P w base spare held fuel t cs = some x) :
    ∃ n, cs.length = P.cellsOf t ∧ ∀ (j : Nat) (f : Field), fs[j]? = some f → ∃ y, DataW.trod enc P w base spare held n f.type ((cs.drop f.offset).take (P.cellsOf f.type)) = some y ∧ Sz P f.type y.1 := by
 obtain ⟨ys, n', _, hy, hlen, hyl, hfd⟩ := DataW.trod_struct ht h
 refine ⟨n', hlen, fun j f hj => ?_⟩
 have hjl : j < fs.size := (Array.getElem?_eq_some_iff.1 hj).1
 have hys : ys[j]? = some (ys[j]'(by omega)) := List.getElem?_eq_getElem (by omega)
 refine ⟨_, (hfd j f hj).trans hys, fun n hn => hs n ?_⟩
 rw [hy]
 simp only [DataW.weights, ht]
 exact DataW.weights_mem_each (j := j) (t := f.type) (by simp [hj]) (by simp [hys]) n hn
theorem trod_elems {t e : TypeId} {fuel : Nat} {v : Value} {x : DataW H × List MemPlace} (ht : P.underlying t = some (.slice e)) {k : Nat} (hC : P.cellsOf e = k) (hpos : 0 < k) (hs : Sz P t x.1) (hby : decide (0 < P.bytesOf e) = true) (hf : DataW.trod enc P w base spare held fuel t [v] = some x) :
    ∃ (A : Option Addr) (n c : Nat), v = .slice A n c ∧ n ≤ reachBytes ∧ n ≤ c ∧ ∀ i, i < n → ∃ b off, A = some ⟨b, off, none⟩ ∧ b < w.heap.size ∧
     ∃ (cs : List Value) (y : DataW H × List MemPlace) (m : Nat), cs.length = k ∧ (∀ j, j < k → w.cell? ⟨b, off + (i * k + j), none⟩ = cs[j]?) ∧ DataW.trod enc P w base spare held m e cs = some y ∧ Sz P e y.1 := by
 rcases open_slice ht hf with ⟨h0, _⟩ | ⟨a, len, cap, m, k', D, Pl, hcs, _, hl, hm, hmm, hx, hi⟩
 ·simp at h0
  subst h0
  exact ⟨_, _, _, rfl, by simp, Nat.le_refl _, fun i hi => absurd hi (by omega)⟩
 ·simp at hcs
  subst hcs
  have hw : len * P.bytesOf e ≤ reachBytes := by
   have := hs ((len + (m - len)) * P.bytesOf e) (by rw [hx]; simp [DataW.weights, ht])
   exact Nat.le_trans (Nat.mul_le_mul_right _ (by omega)) this
  refine ⟨_, _, _, rfl, Nat.le_trans (Nat.le_mul_of_pos_right len (of_decide_eq_true hby)) hw, hl, ?_⟩
  have hnm : len ≤ m := by rw [hmm]; split <;> omega
  rw [hC] at hi
  have key : ∀ i, i < len → ∃ (cs : List Value) (y : DataW H × List MemPlace) (m : Nat), cs.length = k ∧ (∀ j, j < k → w.cell? (a.add (i * k + j)) = cs[j]?) ∧ DataW.trod enc P w base spare held m e cs = some y ∧ Sz P e y.1 := by
   intro i hin
   obtain ⟨cs', hc, ht'⟩ := hi i (by omega)
   obtain ⟨_, hcl, hat⟩ := World.cells?_some hc
   exact ⟨cs', _, _, hcl, fun j hj => by rw [← Go.Deep.add_add]; exact hat j hj, ht', fun n hn => hs n (by
    rw [hx]
    simp only [DataW.weights, ht, List.mem_cons, List.mem_append]
    exact Or.inr (Or.inl (weightsAll_mem (List.mem_map.2 ⟨i, List.mem_range.2 hin, rfl⟩) n hn)))⟩
  intro i hin
  obtain ⟨cs0, y0, m0, hl0, hc0, _, _⟩ := key 0 (by omega)
  have hu := hc0 0 hpos
  simp only [Nat.zero_mul, Nat.add_zero] at hu
  have hadd0 : a.add 0 = a := by simp [Addr.add]
  rw [hadd0, List.getElem?_eq_getElem (by omega)] at hu
  obtain ⟨b, off, rfl, hb⟩ := addr_of_cell hu
  obtain ⟨cs, y, m1, h1, h2, h3⟩ := key i hin
  exact ⟨b, off, rfl, hb, cs, y, m1, h1, fun j hj => by rw [← h2 j hj, addr_add_none], h3⟩
end
end Go.Proofs.YtfnljcallbalgaaGreatDoor

namespace Go.Proofs.YtfnljcallbalgaaGreatDoor
open Go.ChangeShapes Go.WideShapes Go.ChangeAt Go.RowKit Go.Joins Go.Deep
set_option linter.unusedSimpArgs false
set_option linter.unusedVariables false
set_option maxRecDepth 100000
section
variable {H : Type} {enc : TypeId × Value → H} {P : Program} {w : World} {base : Nat} {spare : Nat → Bool} {held : Bool} {S : Nat → Prop}
def RowAt (S : Nat → Prop) (w : World) (row : List D) (cs : List Value) : Prop := row.length = cs.length ∧ ∀ (j : Nat) (d : D), row[j]? = some d → ∃ u, cs[j]? = some u ∧ Rd S w d u
theorem RowAt.one {d : D} {u : Value} (h : Rd S w d u) : RowAt S w [d] [u] := ⟨rfl, fun j d' hj => by
 match j, hj with
 | 0, hj => simp at hj; subst hj; exact ⟨u, rfl, h⟩
 | j + 1, hj => simp at hj⟩
theorem RowAt.cons {d : D} {u : Value} {row : List D} {cs : List Value} (h : Rd S w d u) (t : RowAt S w row cs) : RowAt S w (d :: row) (u :: cs) := ⟨by simp [t.1], fun j d' hj => by
 match j, hj with
 | 0, hj => simp at hj; subst hj; exact ⟨u, rfl, h⟩
 | j + 1, hj => exact t.2 j d' (by simpa using hj)⟩
theorem open_rd {α : Type} (hS : ∀ b, S b) (f : α → List D) (Q : α → Prop) {t e : TypeId} {fuel : Nat} {v : Value} {x : DataW H × List MemPlace} (ht : P.underlying t = some (.slice e)) {k : Nat} (hC : P.cellsOf e = k) (hpos : 0 < k) (hs : Sz P t x.1) (hby : decide (0 < P.bytesOf e) = true) (hf : DataW.trod enc P w base spare held fuel t [v] = some x)
    (hel : ∀ (cs : List Value) (y : DataW H × List MemPlace) (m : Nat), cs.length = k → DataW.trod enc P w base spare held m e cs = some y → Sz P e y.1 → ∃ x : α, RowAt S w (f x) cs ∧ Q x) :
    ∃ l : List α, Rd S w (.sl k (l.map f)) v ∧ l.length ≤ reachBytes ∧ ∀ x ∈ l, Q x := by
 obtain ⟨A, n, c, rfl, hn, hnc, hi⟩ := trod_elems ht hC hpos hs hby hf
 have hex : ∀ i, i < n → ∃ x : α, (∃ b off cs, A = some ⟨b, off, none⟩ ∧ b < w.heap.size ∧ List.length cs = k ∧ (∀ j, j < k → w.cell? ⟨b, off + (i * k + j), none⟩ = cs[j]?) ∧ RowAt S w (f x) cs) ∧ Q x := fun i hin => by
  obtain ⟨b, off, hA, hb, cs, y, m, hl, hc, ht', hsy⟩ := hi i hin
  obtain ⟨x, h1, h2⟩ := hel cs y m hl ht' hsy
  exact ⟨x, ⟨b, off, cs, hA, hb, hl, hc, h1⟩, h2⟩
 obtain ⟨l, hl, hE⟩ := pick_list hex
 refine ⟨l, ?_, by omega, fun x hx => by obtain ⟨i, hi', rfl⟩ := List.getElem_of_mem hx; exact (hE i hi').2⟩
 have hlen : (l.map f).length = n := by simp [hl]
 have hat : ∀ (i : Nat) (row : List D), (l.map f)[i]? = some row → ∃ (h : i < l.length), row = f l[i] := fun i row h => by
  rw [List.getElem?_map] at h
  obtain ⟨y, h1, h2⟩ := Option.map_eq_some_iff.1 h
  obtain ⟨h3, h4⟩ := List.getElem?_eq_some_iff.1 h1
  exact ⟨h3, by rw [← h2, h4]⟩
 by_cases h0 : n = 0
 ·subst h0
  obtain rfl : l = [] := List.length_eq_zero_iff.1 hl
  exact Rd.sl (rows := []) (A := A) (c := c) (b := 0) (o := 0) (cv := fun _ _ => undef) (by simp) (by simp) (fun h => absurd rfl h) (by simp) (by simp) (by simp)
 ·obtain ⟨⟨b, off, cs0, hA, hb, _⟩, _⟩ := hE 0 (by omega)
  have key : ∀ (i : Nat) (row : List D) (j : Nat) (d : D), (l.map f)[i]? = some row → row[j]? = some d → ∃ u, w.cell? ⟨b, off + (i * k + j), none⟩ = some u ∧ Rd S w d u := by
   intro i row j d h1 h2
   obtain ⟨hil, rfl⟩ := hat i row h1
   obtain ⟨⟨b', off', cs, hA', _, hcl, hc, hr⟩, _⟩ := hE i hil
   rw [hA] at hA'
   cases hA'
   obtain ⟨u, u1, u2⟩ := hr.2 j d h2
   have hjk : j < k := by
    rcases Nat.lt_or_ge j cs.length with h | h
    ·omega
    ·rw [List.getElem?_eq_none h] at u1; cases u1
   exact ⟨u, by rw [hc j hjk]; exact u1, u2⟩
  have := Rd.sl (S := S) (w := w) (sz := k) (rows := l.map f) (A := A) (c := c) (b := b) (o := off) (cv := fun i j => (w.cell? ⟨b, off + (i * k + j), none⟩).getD undef) (by omega) (by rw [hlen]; unfold reachBytes at hn; omega) (fun _ => ⟨hA, hb, hS b⟩)
   (fun i row h1 => by
    obtain ⟨hil, rfl⟩ := hat i row h1
    obtain ⟨⟨_, _, cs, _, _, hcl, _, hr⟩, _⟩ := hE i hil
    rw [hr.1, hcl])
   (fun i row j d h1 h2 => by obtain ⟨u, u1, u2⟩ := key i row j d h1 h2; simp [u1])
   (fun i row j d h1 h2 => by obtain ⟨u, u1, u2⟩ := key i row j d h1 h2; simpa [u1] using u2)
  rw [hlen] at this
  exact this
theorem trod_bool' {n : Nat} {t : TypeId} {v : Value} {y : DataW H × List MemPlace} (ht : P.underlying t = some .bool) (h : DataW.trod enc P w base spare held n t [v] = some y) : ∃ b, v = .bool b := by
 obtain ⟨b, h1, _⟩ := DataW.trod_bool ht h
 simp at h1
 exact ⟨b, h1⟩
end
section
variable {H : Type} {enc : TypeId × Value → H} {w : World} {base : Nat} {spare : Nat → Bool} {held : Bool} {S : Nat → Prop}
theorem open_intsD (hS : ∀ b, S b) {fuel : Nat} {v : Value} {x : DataW H × List MemPlace} (hs : Sz Tryz.prog 22 x.1) (hf : DataW.trod enc Tryz.prog w base spare held fuel 22 [v] = some x) : ∃ l : List Int, Rd S w (.sl 1 (dInts l)) v ∧ l.length ≤ reachBytes := by
 obtain ⟨l, h1, h2, _⟩ := open_rd (S := S) hS (fun x : Int => [.v (.int .i64 x)]) (fun _ => True) Tryz.underlying22 (k := 1) (by kernel_rfl) (by decide) hs (by kernel_rfl) hf (fun cs y m hl ht hsy => by
  match cs, hl with
  | [u], _ =>
   obtain ⟨z, rfl, _⟩ := trod_i64 Tryz.underlying3 ht
   exact ⟨z, RowAt.one (.v rfl), trivial⟩)
 exact ⟨l, h1, h2⟩
theorem open_boolsD (hS : ∀ b, S b) {fuel : Nat} {v : Value} {x : DataW H × List MemPlace} (hs : Sz Tryz.prog 131 x.1) (hf : DataW.trod enc Tryz.prog w base spare held fuel 131 [v] = some x) : ∃ l : List Bool, Rd S w (.sl 1 (dBools l)) v ∧ l.length ≤ reachBytes := by
 obtain ⟨l, h1, h2, _⟩ := open_rd (S := S) hS (fun x : Bool => [.v (.bool x)]) (fun _ => True) Tryz.underlying131 (k := 1) (by kernel_rfl) (by decide) hs (by kernel_rfl) hf (fun cs y m hl ht hsy => by
  match cs, hl with
  | [u], _ =>
   obtain ⟨z, rfl⟩ := trod_bool' Tryz.underlying4 ht
   exact ⟨z, RowAt.one (.v rfl), trivial⟩)
 exact ⟨l, h1, h2⟩
def MatSm (m : List (List Bool)) : Prop := m.length ≤ reachBytes ∧ ∀ r ∈ m, r.length ≤ reachBytes
theorem open_matD (hS : ∀ b, S b) {fuel : Nat} {v : Value} {x : DataW H × List MemPlace} (hs : Sz Tryz.prog 128 x.1) (hf : DataW.trod enc Tryz.prog w base spare held fuel 128 [v] = some x) : ∃ m : List (List Bool), Rd S w (.sl 1 (dMat m)) v ∧ MatSm m := by
 obtain ⟨l, h1, h2, h3⟩ := open_rd (S := S) hS (fun r : List Bool => [.sl 1 (dBools r)]) (fun r => r.length ≤ reachBytes) Tryz.underlying128 (k := 1) (by kernel_rfl) (by decide) hs (by kernel_rfl) hf (fun cs y m hl ht hsy => by
  match cs, hl with
  | [u], _ =>
   obtain ⟨z, h1, h2⟩ := open_boolsD hS hsy ht
   exact ⟨z, RowAt.one h1, h2⟩)
 exact ⟨l, h1, h2, h3⟩
def TabSm (t : Tab) : Prop := MatSm t.ok ∧ MatSm t.rw
theorem open_tabsD (hS : ∀ b, S b) {fuel : Nat} {v : Value} {x : DataW H × List MemPlace} (hs : Sz Tryz.prog 23 x.1) (hf : DataW.trod enc Tryz.prog w base spare held fuel 23 [v] = some x) : ∃ l : List Tab, Rd S w (.sl 6 (dTabs l)) v ∧ l.length ≤ reachBytes ∧ ∀ t ∈ l, TabSm t := by
 have cI : Tryz.prog.cellsOf 3 = 1 := by kernel_rfl
 have cB : Tryz.prog.cellsOf 4 = 1 := by kernel_rfl
 have cM : Tryz.prog.cellsOf 128 = 1 := by kernel_rfl
 obtain ⟨l, h1, h2, h3⟩ := open_rd (S := S) hS tabRow TabSm Tryz.underlying23 (k := 6) (by kernel_rfl) (by decide) hs (by kernel_rfl) hf (fun cs y m hl ht hsy => by
  obtain ⟨n', _, hfd⟩ := trod_fields Tryz.underlying130 hsy ht
  match cs, hl with
  | [u0, u1, u2, u3, u4, u5], _ =>
   obtain ⟨y0, t0, _⟩ := hfd 0 _ rfl
   obtain ⟨y1, t1, _⟩ := hfd 1 _ rfl
   obtain ⟨y2, t2, _⟩ := hfd 2 _ rfl
   obtain ⟨y3, t3, _⟩ := hfd 3 _ rfl
   obtain ⟨y4, t4, s4⟩ := hfd 4 _ rfl
   obtain ⟨y5, t5, s5⟩ := hfd 5 _ rfl
   simp [cI, cB, cM] at t0 t1 t2 t3 t4 t5
   obtain ⟨z0, rfl, _⟩ := trod_i64 Tryz.underlying3 t0
   obtain ⟨z1, rfl, _⟩ := trod_i64 Tryz.underlying3 t1
   obtain ⟨z2, rfl, _⟩ := trod_i64 Tryz.underlying3 t2
   obtain ⟨z3, rfl⟩ := trod_bool' Tryz.underlying4 t3
   obtain ⟨m4, r4, q4⟩ := open_matD hS s4 t4
   obtain ⟨m5, r5, q5⟩ := open_matD hS s5 t5
   exact ⟨⟨z0, z1, z2, z3, m4, m5⟩, .cons (.v rfl) (.cons (.v rfl) (.cons (.v rfl) (.cons (.v rfl) (.cons r4 (.one r5))))), q4, q5⟩)
 exact ⟨l, h1, h2, h3⟩
end
end Go.Proofs.YtfnljcallbalgaaGreatDoor

