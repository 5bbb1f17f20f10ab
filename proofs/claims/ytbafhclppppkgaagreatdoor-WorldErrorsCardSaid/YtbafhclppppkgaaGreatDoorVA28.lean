/- Rules of runs and contracts of functions, for the claims of one seat. -/
import Derived.Laws.Externs
import Derived.Lib.Builder
import Derived.Shelf.LaysM
import Derived.Shelf.Strconv.Itoa3
import Derived.Shelf.Strconv.Itoa4
import Derived.Shelf.Strings.Builder1
import Derived.Test.YtbafhclppppkgaaGreatDoorProg
import Derived.Test.YtbafhclppppkgaaGreatDoorVA14
import Derived.Test.YtbafhclppppkgaaGreatDoorVA15
import Derived.Test.YtbafhclppppkgaaGreatDoorVA17
import Derived.Test.YtbafhclppppkgaaGreatDoorVA6
namespace Go.Proofs.YtbafhclppppkgaaGreatDoor
open Go Go.RowKit
set_option maxRecDepth 100000
set_option maxHeartbeats 8000000
set_option linter.unusedSimpArgs false
set_option linter.unusedVariables false
def fewRows (l : List (List Bool)) : Bool := l.all fun r => decide (r.length ≤ 8)
def fewTab (t : Tab) : Bool := decide (t.ok.length ≤ 8) && (decide (t.rw.length ≤ 8) && (fewRows t.ok && fewRows t.rw))
def fewP (p : Prob) : Bool := decide (p.vs.length ≤ 8) && (decide (p.now.length ≤ 8) && (decide (p.tgt.length ≤ 8) && (decide (p.tabs.length ≤ 14) && p.tabs.all fewTab)))
theorem all_no {α : Type} {f : α → Bool} {l : List α} {d : α} {k : Nat} (hk : k < l.length) (h : f (l.getD k d) = false) : l.all f = false := by
 rw [List.getD_eq_getElem?_getD, List.getElem?_eq_getElem hk] at h
 rw [List.all_eq_false]
 exact ⟨_, List.getElem_mem hk, by simpa using h⟩
theorem all_yes {α : Type} {f : α → Bool} {l : List α} {d : α} (h : ∀ k, k < l.length → f (l.getD k d) = true) : l.all f = true := by
 rw [List.all_eq_true]
 intro x hx
 obtain ⟨k, hk, rfl⟩ := List.mem_iff_getElem.1 hx
 have := h k hk
 rwa [List.getD_eq_getElem?_getD, List.getElem?_eq_getElem hk] at this
theorem fewP_no {p : Prob} (h : ¬ (p.vs.length ≤ 8 ∧ p.now.length ≤ 8 ∧ p.tgt.length ≤ 8 ∧ p.tabs.length ≤ 14)) : false = fewP p := by
 unfold fewP
 by_cases h1 : p.vs.length ≤ 8 <;> by_cases h2 : p.now.length ≤ 8 <;> by_cases h3 : p.tgt.length ≤ 8 <;> by_cases h4 : p.tabs.length ≤ 14 <;> simp [h1, h2, h3, h4]
 exact absurd ⟨h1, h2, h3, h4⟩ h
theorem fewP_tab {p : Prob} {k : Nat} (hk : k < p.tabs.length) (h : fewTab (p.tabs.getD k nilT) = false) : false = fewP p := by
 unfold fewP
 rw [all_no hk h]
 simp
theorem fewT_len {t : Tab} (h : ¬ (t.ok.length ≤ 8 ∧ t.rw.length ≤ 8)) : fewTab t = false := by
 unfold fewTab
 by_cases h1 : t.ok.length ≤ 8 <;> by_cases h2 : t.rw.length ≤ 8 <;> simp [h1, h2]
 exact absurd ⟨h1, h2⟩ h
theorem fewR_no {l : List (List Bool)} {j : Nat} (hj : j < l.length) (h : ¬ (l.getD j []).length ≤ 8) : fewRows l = false := all_no (d := []) hj (by simpa using h)
theorem fewT_ok {t : Tab} {j : Nat} (hj : j < t.ok.length) (h : ¬ (t.ok.getD j []).length ≤ 8) : fewTab t = false := by unfold fewTab; rw [fewR_no hj h]; simp
theorem fewT_rw {t : Tab} {j : Nat} (hj : j < t.rw.length) (h : ¬ (t.rw.getD j []).length ≤ 8) : fewTab t = false := by unfold fewTab; rw [fewR_no hj h]; simp
theorem fewT_y {t : Tab} (h1 : t.ok.length ≤ 8) (h2 : t.rw.length ≤ 8) (h3 : ∀ i, i < t.ok.length → (t.ok.getD i []).length ≤ 8) (h4 : ∀ i, i < t.rw.length → (t.rw.getD i []).length ≤ 8) : fewTab t = true := by
 unfold fewTab fewRows
 rw [all_yes (d := []) (fun k hk => by simpa using h3 k hk), all_yes (d := []) (fun k hk => by simpa using h4 k hk)]
 simp [h1, h2]
theorem fewP_y {p : Prob} (h : p.vs.length ≤ 8 ∧ p.now.length ≤ 8 ∧ p.tgt.length ≤ 8 ∧ p.tabs.length ≤ 14) (h5 : ∀ k, k < p.tabs.length → fewTab (p.tabs.getD k nilT) = true) : true = fewP p := by
 unfold fewP
 rw [all_yes h5]
 simp [h.1, h.2.1, h.2.2.1, h.2.2.2]
theorem few_fn (p : Prob) : FnSound Tryz.prog 5 [.val true (probC p)] [] { vals := [(false, [.d (.v (.bool (fewP p)))])] } := by
 refine startW (tm := [(0, _)]) Tryz.func5 rfl Tryz.ntmps5 rfl rfl rfl rfl ?_
 repeat' (first
 |(with_reducible refine rgn 6 600 ?_ ?_); exact rfl
 |(with_reducible refine rgn 7 700 ?_ ?_); exact rfl
 |(with_reducible refine rgn 8 800 ?_ ?_); exact rfl
 |(with_reducible refine rgn 9 900 ?_ ?_); exact rfl
 |(with_reducible refine rgn 11 1000 ?_ ?_); exact rfl
 |(with_reducible refine rgn 12 1100 ?_ ?_); exact rfl
 |(with_reducible refine rgn 10 1200 ?_ ?_); exact rfl
 |(with_reducible refine rgn 13 1300 ?_ ?_); exact rfl
 |(with_reducible refine rgn 14 1400 ?_ ?_); exact rfl
 |(with_reducible refine rgn 16 1500 ?_ ?_); exact rfl
 |(with_reducible refine rgn 17 1600 ?_ ?_); exact rfl
 |(with_reducible refine rgn 15 1700 ?_ ?_); exact rfl
 |(with_reducible refine rgn 5 1800 ?_ ?_); exact rfl
 |(with_reducible refine blk_at (id := 0) ?_); ((with_reducible refine JL.loopW 0 499 (fun (k : Nat) tm => (3, .one false [.d (.v (.int .i64 ((k : Int))))]) :: tm) (fun (k : Nat) bo => bo) (fun (k : Nat) => k ≤ p.tabs.length ∧ ∀ i, i < k → fewTab (p.tabs.getD i nilT) = true) (fun (k : Nat) => p.tabs.length - k) (0) ?_ (fun k hk => ?_) ?_); (focus (apply SubW [] rfl ?_ ?_ rfl ?_; (repeat' (first | exact kA | refine kB ?_ | refine kC ?_ ?_ | exact kD | fail)))))
 |((with_reducible refine round_next (i := k) (k + 1) ?_ ?_ ?_); (focus (apply SubW [] rfl ?_ ?_ rfl ?_; (repeat' (first | exact kA | refine kB ?_ | refine kC ?_ ?_ | exact kD | fail)))))
 |(with_reducible refine blk_at (id := 2) ?_); ((with_reducible refine JL.loopW 2 899 (fun (j : Nat) tm => (4, .one false [.d (.v (.int .i64 ((j : Int))))]) :: tm) (fun (j : Nat) bo => bo) (fun (j : Nat) => j ≤ (p.tabs.getD k nilT).ok.length ∧ ∀ i, i < j → ((p.tabs.getD k nilT).ok.getD i []).length ≤ 8) (fun (j : Nat) => (p.tabs.getD k nilT).ok.length - j) (0) ?_ (fun j hj => ?_) ?_); (focus (apply SubW [] rfl ?_ ?_ rfl ?_; (repeat' (first | exact kA | refine kB ?_ | refine kC ?_ ?_ | exact kD | fail)))))
 |((with_reducible refine round_next (i := j) (j + 1) ?_ ?_ ?_); (focus (apply SubW [] rfl ?_ ?_ rfl ?_; (repeat' (first | exact kA | refine kB ?_ | refine kC ?_ ?_ | exact kD | fail)))))
 |(with_reducible refine blk_at (id := 4) ?_); ((with_reducible refine JL.loopW 4 1399 (fun (i : Nat) tm => (5, .one false [.d (.v (.int .i64 ((i : Int))))]) :: tm) (fun (i : Nat) bo => bo) (fun (i : Nat) => i ≤ (p.tabs.getD k nilT).rw.length ∧ (∀ b, b < (p.tabs.getD k nilT).ok.length → ((p.tabs.getD k nilT).ok.getD b []).length ≤ 8) ∧ ∀ b, b < i → ((p.tabs.getD k nilT).rw.getD b []).length ≤ 8) (fun (i : Nat) => (p.tabs.getD k nilT).rw.length - i) (0) ?_ (fun i hi => ?_) ?_); (focus (apply SubW [] rfl ?_ ?_ rfl ?_; (repeat' (first | exact kA | refine kB ?_ | refine kC ?_ ?_ | exact kD | fail)))))
 |((with_reducible refine round_next (i := i) (i + 1) ?_ ?_ ?_); (focus (apply SubW [] rfl ?_ ?_ rfl ?_; (repeat' (first | exact kA | refine kB ?_ | refine kC ?_ ?_ | exact kD | fail)))))
 |refine wA ?_
 |(refine wC ?_ ?_ <;> intro hc)
 |refine wB ?_ ?_
 |(with_reducible refine JL.block ?_)
 |(with_reducible refine F_at ?_); refine eW (vs := [(_, _)]) Tryz.results5 ?_; (focus (repeat' (first | exact oA | refine oB ?_ | refine oC ?_ ?_ | fail)))
 |exact oM
 |fail)
 all_goals first
  | exact fewP_no (by omega)
  | exact ⟨by omega, fun i hi => by omega⟩
  | exact fewP_tab (k := k) (by omega) (fewT_len (by omega))
  | exact fewP_tab (k := k) (by omega) (fewT_ok (j := j) (by omega) (by omega))
  | exact fewP_tab (k := k) (by omega) (fewT_rw (j := i) (by omega) (by omega))
  | (refine ⟨by omega, fun b hb => ?_⟩; by_cases e : b = j; (subst e; omega); exact hj.2 b (by omega))
  | exact ⟨by omega, fun b hb => hj.2 b (by omega), fun b hb => by omega⟩
  | (refine ⟨by omega, hi.2.1, fun b hb => ?_⟩; by_cases e : b = i; (subst e; omega); exact hi.2.2 b (by omega))
  | (refine ⟨by omega, fun b hb => ?_⟩; by_cases e : b = k; (subst e; exact fewT_y (by omega) (by omega) (fun c hc => hi.2.1 c hc) (fun c hc => hi.2.2 c (by omega))); exact hk.2 b (by omega))
  | exact fewP_y (by omega) (fun b hb => hk.2 b (by omega))
  | trace_state
end Go.Proofs.YtbafhclppppkgaaGreatDoor

namespace Go.Proofs.YtbafhclppppkgaaGreatDoor
open Go Go.RowKit
set_option linter.unusedSimpArgs false
set_option linter.unusedVariables false
def argsEq : List Arg → List Arg → Bool
 | [], [] => true
 | .val x a :: r, .val y b :: s => (x == y) && (csEq a b && argsEq r s)
 | _, _ => false
theorem argsEq_ok : ∀ {a b : List Arg}, argsEq a b = true → a = b
 | [], [], _ => rfl
 | .val x a :: r, .val y b :: s, h => by
  simp only [argsEq, Bool.and_eq_true, beq_iff_eq] at h
  rw [h.1, csEq_ok h.2.1, argsEq_ok h.2.2]
 | .io .. :: _, .val .. :: _, h => by simp [argsEq] at h
 | .val .. :: _, .io .. :: _, h => by simp [argsEq] at h
 | .io .. :: _, .io .. :: _, h => by simp [argsEq] at h
 | [], _ :: _, h => by simp [argsEq] at h
 | .val .. :: _, [], h => by simp [argsEq] at h
 | .io .. :: _, [], h => by simp [argsEq] at h
abbrev CallT := List (FuncId × List Arg × ARes)
def lookT : CallT → FuncId → List Arg → Option ARes
 | [], _, _ => none
 | (g, xs, r) :: T, f, args => if f = g && argsEq args xs then some r else lookT T f args
def extT (T : CallT) (base : CallF) : CallF := fun f args bxs => match bxs with
 | [] => match lookT T f args with
  | some r => some r
  | none => base f args []
 | _ => base f args bxs
def TabOk (P : Program) : CallT → Prop
 | [] => True
 | (g, xs, r) :: T => FnSound P g xs [] r ∧ TabOk P T
theorem lookT_ok {P : Program} : ∀ {T : CallT}, TabOk P T → ∀ {f : FuncId} {args : List Arg} {r : ARes}, lookT T f args = some r → FnSound P f args [] r
 | [], _, f, args, r, he => by cases he
 | (g, xs, r0) :: T, h, f, args, r, he => by
  unfold lookT at he
  split at he
  ·rename_i hc
   simp only [Bool.and_eq_true, decide_eq_true_eq] at hc
   cases he
   rw [hc.1, argsEq_ok hc.2]
   exact h.1
  ·exact lookT_ok h.2 he
theorem extT_ok {P : Program} {T : CallT} {base : CallF} (hT : TabOk P T) (hb : CallOk P base) : CallOk P (extT T base) := by
 intro f args bxs r he
 unfold extT at he
 split at he
 ·split at he
  ·rename_i r' hr
   cases he
   exact lookT_ok hT hr
  ·exact hb _ _ _ _ he
 ·exact hb _ _ _ _ he
def bxsEq : List (Key × Box) → List (Key × Box) → Bool
 | [], [] => true
 | (k, a) :: r, (l, b) :: s => decide (k = l) && (boxEq a b && bxsEq r s)
 | _, _ => false
theorem bxsEq_ok : ∀ {a b : List (Key × Box)}, bxsEq a b = true → a = b
 | [], [], _ => rfl
 | (k, a) :: r, (l, b) :: s, h => by
  simp only [bxsEq, Bool.and_eq_true, decide_eq_true_eq] at h
  rw [h.1, boxEq_ok h.2.1, bxsEq_ok h.2.2]
 | [], _ :: _, h => by simp [bxsEq] at h
 | _ :: _, [], h => by simp [bxsEq] at h
abbrev CallB := List (FuncId × List Arg × List (Key × Box) × ARes)
def lookB : CallB → FuncId → List Arg → List (Key × Box) → Option ARes
 | [], _, _, _ => none
 | (g, xs, bs, r) :: T, f, args, bxs => if f = g && (argsEq args xs && bxsEq bxs bs) then some r else lookB T f args bxs
def extB (B : CallB) (base : CallF) : CallF := fun f args bxs => match lookB B f args bxs with
 | some r => some r
 | none => base f args bxs
def TabB (P : Program) : CallB → Prop
 | [] => True
 | (g, xs, bs, r) :: T => FnSound P g xs bs r ∧ TabB P T
theorem lookB_ok {P : Program} : ∀ {T : CallB}, TabB P T → ∀ {f : FuncId} {args : List Arg} {bxs : List (Key × Box)} {r : ARes}, lookB T f args bxs = some r → FnSound P f args bxs r
 | [], _, f, args, bxs, r, he => by cases he
 | (g, xs, bs, r0) :: T, h, f, args, bxs, r, he => by
  unfold lookB at he
  split at he
  ·rename_i hc
   simp only [Bool.and_eq_true, decide_eq_true_eq] at hc
   cases he
   rw [hc.1, argsEq_ok hc.2.1, bxsEq_ok hc.2.2]
   exact h.1
  ·exact lookB_ok h.2 he
theorem extB_ok {P : Program} {B : CallB} {base : CallF} (hB : TabB P B) (hb : CallOk P base) : CallOk P (extB B base) := by
 intro f args bxs r he
 unfold extB at he
 split at he
 ·rename_i r' hr
  cases he
  exact lookB_ok hB hr
 ·exact hb _ _ _ _ he
end Go.Proofs.YtbafhclppppkgaaGreatDoor

namespace Go.Proofs
open Go.Shelf
open Go.RowKit Go.Sort Go.Lib in
def Tryz.lays171_ren : Go.Shelf.Ren := ⟨fun | 171 => 55 | 243 => 95 | 246 => 96 | 283 => 129 | 284 => 130 | 285 => 131 | 286 => 132 | 129 => 165 | 317 => 164 | 318 => 166 | 319 => 167 | 320 => 168 | 337 => 188 | 338 => 189 | n => n, fun | 3 => 3 | 9 => 9 | 2 => 2 | 4 => 4 | 171 => 205 | 0 => 0 | 53 => 139 | 37 => 40 | 5 => 5 | 173 => 208 | 212 => 249 | 51 => 136 | 20 => 20 | 213 => 250 | 46 => 99 | 232 => 286 | 233 => 287 | n => n, fun | 17 => 0 | 18 => 1 | 19 => 2 | n => n⟩
theorem Tryz.lays171 : Go.Proofs.Lays.n171 Tryz.prog Tryz.lays171_ren := {
 mixed := by kernel_rfl
 f129 := Tryz.func165.trans (congrArg some (by kernel_rfl))
 f171 := Tryz.func55.trans (congrArg some (by kernel_rfl))
 f243 := Tryz.func95.trans (congrArg some (by kernel_rfl))
 f246 := Tryz.func96.trans (congrArg some (by kernel_rfl))
 f283 := Tryz.func129.trans (congrArg some (by kernel_rfl))
 f284 := Tryz.func130.trans (congrArg some (by kernel_rfl))
 f285 := Tryz.func131.trans (congrArg some (by kernel_rfl))
 f286 := Tryz.func132.trans (congrArg some (by kernel_rfl))
 f317 := Tryz.func164.trans (congrArg some (by kernel_rfl))
 f318 := Tryz.func166.trans (congrArg some (by kernel_rfl))
 f319 := Tryz.func167.trans (congrArg some (by kernel_rfl))
 f320 := Tryz.func168.trans (congrArg some (by kernel_rfl))
 f337 := Tryz.func188.trans (congrArg some (by kernel_rfl))
 f338 := Tryz.func189.trans (congrArg some (by kernel_rfl))
 t0 := Tryz.underlying0
 a0 := Tryz.isAgg0
 z0 := Tryz.sizeOf0
 v0 := Tryz.zeroValue0
 t2 := Tryz.underlying2
 a2 := Tryz.isAgg2
 z2 := Tryz.sizeOf2
 v2 := Tryz.zeroValue2
 t3 := Tryz.underlying3
 a3 := Tryz.isAgg3
 z3 := Tryz.sizeOf3
 v3 := Tryz.zeroValue3
 t4 := Tryz.underlying4
 a4 := Tryz.isAgg4
 z4 := Tryz.sizeOf4
 v4 := Tryz.zeroValue4
 t5 := Tryz.underlying5
 a5 := Tryz.isAgg5
 z5 := Tryz.sizeOf5
 v5 := Tryz.zeroValue5
 t9 := Tryz.underlying9
 a9 := Tryz.isAgg9
 z9 := Tryz.sizeOf9
 v9 := Tryz.zeroValue9
 t20 := Tryz.underlying20
 a20 := Tryz.isAgg20
 z20 := Tryz.sizeOf20
 v20 := Tryz.zeroValue20
 t37 := Tryz.underlying40
 a37 := Tryz.isAgg40
 z37 := Tryz.sizeOf40
 v37 := Tryz.zeroValue40
 t46 := Tryz.underlying99
 a46 := Tryz.isAgg99
 z46 := Tryz.sizeOf99
 v46 := Tryz.zeroValue99
 t51 := Tryz.underlying136
 a51 := Tryz.isAgg136
 z51 := Tryz.sizeOf136
 v51 := Tryz.zeroValue136
 t53 := Tryz.underlying139
 a53 := Tryz.isAgg139
 z53 := Tryz.sizeOf139
 v53 := Tryz.zeroValue139
 t171 := Tryz.underlying205
 a171 := Tryz.isAgg205
 z171 := Tryz.sizeOf205
 v171 := Tryz.zeroValue205
 t173 := Tryz.underlying208
 a173 := Tryz.isAgg208
 z173 := Tryz.sizeOf208
 v173 := Tryz.zeroValue208
 t212 := Tryz.underlying249
 a212 := Tryz.isAgg249
 z212 := Tryz.sizeOf249
 v212 := Tryz.zeroValue249
 t213 := Tryz.underlying250
 a213 := Tryz.isAgg250
 z213 := Tryz.sizeOf250
 t232 := Tryz.underlying286
 a232 := Tryz.isAgg286
 z232 := Tryz.sizeOf286
 v232 := Tryz.zeroValue286
 t233 := Tryz.underlying287
 a233 := Tryz.isAgg287
 z233 := Tryz.sizeOf287
 v233 := Tryz.zeroValue287
 g17 := by kernel_rfl
 g18 := by kernel_rfl
 g19 := by kernel_rfl }
open Go.RowKit Go.Sort Go.Lib in
theorem Tryz.strconv_Itoa_small (i : Nat) (hi : i < 100) (w : World) :
    Calls Tryz.prog 55 #[.int .i64 i] w fun e w' => e = .returned (.string ⟨(Lib.decDigits i).toArray⟩) ∧ w' = w := Any.strconv_Itoa_small Tryz.lays171 i hi w
open Go.RowKit Go.Sort Go.Lib in
def Tryz.lays173_ren : Go.Shelf.Ren := ⟨fun | 173 => 56 | 246 => 96 | 283 => 129 | 284 => 130 | 285 => 131 | 286 => 132 | 129 => 165 | 317 => 164 | 318 => 166 | 319 => 167 | 320 => 168 | 337 => 188 | 338 => 189 | n => n, fun | 2 => 2 | 3 => 3 | 9 => 9 | 4 => 4 | 171 => 205 | 0 => 0 | 53 => 139 | 37 => 40 | 5 => 5 | 173 => 208 | 212 => 249 | 51 => 136 | 20 => 20 | 213 => 250 | 46 => 99 | 232 => 286 | 233 => 287 | n => n, fun | 17 => 0 | 18 => 1 | 19 => 2 | n => n⟩
theorem Tryz.lays173 : Go.Proofs.Lays.n173 Tryz.prog Tryz.lays173_ren := {
 mixed := by kernel_rfl
 f129 := Tryz.func165.trans (congrArg some (by kernel_rfl))
 f173 := Tryz.func56.trans (congrArg some (by kernel_rfl))
 f246 := Tryz.func96.trans (congrArg some (by kernel_rfl))
 f283 := Tryz.func129.trans (congrArg some (by kernel_rfl))
 f284 := Tryz.func130.trans (congrArg some (by kernel_rfl))
 f285 := Tryz.func131.trans (congrArg some (by kernel_rfl))
 f286 := Tryz.func132.trans (congrArg some (by kernel_rfl))
 f317 := Tryz.func164.trans (congrArg some (by kernel_rfl))
 f318 := Tryz.func166.trans (congrArg some (by kernel_rfl))
 f319 := Tryz.func167.trans (congrArg some (by kernel_rfl))
 f320 := Tryz.func168.trans (congrArg some (by kernel_rfl))
 f337 := Tryz.func188.trans (congrArg some (by kernel_rfl))
 f338 := Tryz.func189.trans (congrArg some (by kernel_rfl))
 t0 := Tryz.underlying0
 a0 := Tryz.isAgg0
 z0 := Tryz.sizeOf0
 v0 := Tryz.zeroValue0
 t2 := Tryz.underlying2
 a2 := Tryz.isAgg2
 z2 := Tryz.sizeOf2
 v2 := Tryz.zeroValue2
 t3 := Tryz.underlying3
 a3 := Tryz.isAgg3
 z3 := Tryz.sizeOf3
 v3 := Tryz.zeroValue3
 t4 := Tryz.underlying4
 a4 := Tryz.isAgg4
 z4 := Tryz.sizeOf4
 v4 := Tryz.zeroValue4
 t5 := Tryz.underlying5
 a5 := Tryz.isAgg5
 z5 := Tryz.sizeOf5
 v5 := Tryz.zeroValue5
 t9 := Tryz.underlying9
 a9 := Tryz.isAgg9
 z9 := Tryz.sizeOf9
 v9 := Tryz.zeroValue9
 t20 := Tryz.underlying20
 a20 := Tryz.isAgg20
 z20 := Tryz.sizeOf20
 v20 := Tryz.zeroValue20
 t37 := Tryz.underlying40
 a37 := Tryz.isAgg40
 z37 := Tryz.sizeOf40
 v37 := Tryz.zeroValue40
 t46 := Tryz.underlying99
 a46 := Tryz.isAgg99
 z46 := Tryz.sizeOf99
 v46 := Tryz.zeroValue99
 t51 := Tryz.underlying136
 a51 := Tryz.isAgg136
 z51 := Tryz.sizeOf136
 v51 := Tryz.zeroValue136
 t53 := Tryz.underlying139
 a53 := Tryz.isAgg139
 z53 := Tryz.sizeOf139
 v53 := Tryz.zeroValue139
 t171 := Tryz.underlying205
 a171 := Tryz.isAgg205
 z171 := Tryz.sizeOf205
 v171 := Tryz.zeroValue205
 t173 := Tryz.underlying208
 a173 := Tryz.isAgg208
 z173 := Tryz.sizeOf208
 v173 := Tryz.zeroValue208
 t212 := Tryz.underlying249
 a212 := Tryz.isAgg249
 z212 := Tryz.sizeOf249
 v212 := Tryz.zeroValue249
 t213 := Tryz.underlying250
 a213 := Tryz.isAgg250
 z213 := Tryz.sizeOf250
 t232 := Tryz.underlying286
 a232 := Tryz.isAgg286
 z232 := Tryz.sizeOf286
 v232 := Tryz.zeroValue286
 t233 := Tryz.underlying287
 a233 := Tryz.isAgg287
 z233 := Tryz.sizeOf287
 v233 := Tryz.zeroValue287
 g17 := by kernel_rfl
 g18 := by kernel_rfl
 g19 := by kernel_rfl }
open Go.RowKit Go.Sort Go.Lib in
theorem Tryz.strconv_FormatInt_10_small (i : Nat) (hi : i < 100) (w : World) :
    Calls Tryz.prog 56 #[.int .i64 i, .int .i64 10] w fun e w' => e = .returned (.string ⟨(Lib.decDigits i).toArray⟩) ∧ w' = w := Any.strconv_FormatInt_10_small Tryz.lays173 i hi w
end Go.Proofs

namespace Go.Proofs.YtbafhclppppkgaaGreatDoor
open Go Go.RowKit
set_option linter.unusedSimpArgs false
set_option linter.unusedVariables false
set_option maxHeartbeats 2000000
set_option maxRecDepth 100000
theorem infoBld : (Tryz.prog.info? 151).map (fun i => i.size) = some 2 := by kernel_rfl
theorem cc_used (b : Nat) (w : World) (h0 : w.cell? ⟨b, 0, none⟩ = some (.pointer (some ⟨b, 0, none⟩))) :
    Calls Tryz.prog 122 #[.pointer (some ⟨b, 0, none⟩)] w fun e w' => e = .returned (.tuple #[]) ∧ w' = w := by
 obtain ⟨j, hj, _⟩ := Option.map_eq_some_iff.1 infoBld
 go_enter Tryz.func122, Tryz.ntmps122
 go_wp2
 rw [Lib.run_neq_ptr_same w _ Tryz.underlying149 hj]
 go_wp2
 go_end0
 exact ⟨rfl, rfl⟩
theorem cc_fresh (b : Nat) (w : World) (h0 : w.cell? ⟨b, 0, none⟩ = some (.pointer none)) (hsh : w.shape? b = some (151, 2)) (hfz : w.frozen? ⟨b, 0, none⟩ = false) :
    Calls Tryz.prog 122 #[.pointer (some ⟨b, 0, none⟩)] w fun e w' => e = .returned (.tuple #[]) ∧ w' = w.setCell ⟨b, 0, none⟩ (.pointer (some ⟨b, 0, none⟩)) := by
 obtain ⟨j, hj, hjs⟩ := Option.map_eq_some_iff.1 infoBld
 go_enter Tryz.func122, Tryz.ntmps122
 go_wp2
 rw [Lib.run_to_unsafe w ⟨b, 0, none⟩ Tryz.underlying149 Tryz.underlying246 hj (by rw [hjs]; decide) hsh (Nat.zero_lt_succ 1)]
 simp only [Result.andThen]
 rw [Oper.upon_value]
 go_wp2
 rw [run_callFunc_extern (by exact Tryz.func162) (by kernel_rfl) (by kernel_rfl) (by kernel_rfl) (e := Extern.AbiNoEscape.same) (by kernel_rfl)]
 rw [Lib.run_noEscape]
 simp only [Result.andThen]
 rw [Oper.upon_value]
 go_wp2
 rw [Lib.run_from_unsafe w ⟨b, 0, none⟩ Tryz.underlying246 Tryz.underlying149 hj hsh (by kernel_rfl)]
 simp only [Result.andThen]
 rw [Oper.upon_value]
 go_wp2
 go_end0
 exact ⟨rfl, rfl⟩
section
variable {V X : Nat → Prop} {Z : Key → Hd} {w0 w : World} {N : Nat} {ρ : Key → Hd} {ok ok' : Key → Prop} {lt : Nat → Option AV} {lb lb' : Key → Option Box} {a : Act}
theorem Rel.ret (h : Rel V X Z w0 N ρ ok lt lb a w) (ho : ∀ q : Key, ok q → ok' q) (hb : ∀ q box, lb' q = some box → lb q = some box) {av : AV} {v : Value} (hv : AVRel (CRel (Im V ρ lb') ρ ok' w) av v) : Rel V X Z w0 1 ρ ok' (ltOne av) lb' ⟨#[v], []⟩ w := by
 refine ⟨rfl, rfl, fun t av' ht => ?_, fun q box hq => ⟨ho _ (h.bx q box (hb q box hq)).1, ?_⟩, fun q b1 q' b2 b e1 l1 e2 l2 g1 g2 => h.ap q b1 q' b2 b (hb _ _ e1) l1 (hb _ _ e2) l2 g1 g2, fun q box b hq => h.lo q box b (hb _ _ hq), h.fr, h.va, fun q hq => ⟨ho _ (h.zz q hq).1, (h.zz q hq).2⟩⟩
 ·unfold ltOne at ht
  split at ht
  ·rename_i h0
   subst h0
   cases ht
   exact ⟨by omega, hv⟩
  ·cases ht
 ·exact (h.bx q box (hb q box hq)).2.keep (Keep.refl _ _) (fun b _ hi => ⟨hi.1, fun q' box' hq' hl => hi.2 q' box' (hb _ _ hq') hl⟩) (fun _ _ => rfl) ho (h.bx q box (hb q box hq)).1 (fun _ _ _ => rfl)
end
def ccX (T : TypeId) : List Arg → List (Key × Box) → Option ARes
 | [.val false [.ptr (0, 0) 0]], [((0, 0), .st T' [.d (.v (.pointer none)), .zero])] => if T' = T then some { vals := [], bx := [((0, 0), .st T [.ptr (0, 0) 0, .zero])] } else none
 | [.val false [.ptr (0, 0) 0]], [((0, 0), .st T' [.ptr (0, 0) 0, .own (1, 0)]), ((1, 0), .sl ty sz rows)] => if T' = T then some { vals := [], bx := [((0, 0), .st T [.ptr (0, 0) 0, .own (1, 0)]), ((1, 0), .sl ty sz rows)] } else none
 | _, _ => none
theorem cc_fn {args : List Arg} {bxs : List (Key × Box)} {r : ARes} (he : ccX 151 args bxs = some r) : FnSound Tryz.prog 122 args bxs r := by
 unfold ccX at he
 split at he
 ·rename_i T'
  split at he
  ·rename_i hT
   subst hT
   cases he
   intro V X Z ρ w vals hl hR
   have hv := vals_one hl
   obtain ⟨hok, b, hg, hp⟩ := slot1_sound (c := .ptr (0, 0) 0) rfl (args_val hR (i := 0) rfl).2
   obtain ⟨b', vs, g1, g2, g3⟩ := (hR.bx (0, 0) (.st 151 [.d (.v (.pointer none)), .zero]) rfl).2
   obtain rfl : b = b' := by rw [g1] at hg; cases hg; rfl
   cases g3 with
   | cons x1 y1 =>
   cases y1 with
   | cons x2 y2 =>
   cases y2
   rename_i v1 v2
   have e1 := (Rd.val x1).1
   subst e1
   rw [hv, hp]
   have hsh : w.shape? b = some (151, 2) := by
    have := g2
    unfold Blk at this
    simp [World.shape?, this]
   refine (cc_fresh b w (by rw [g2.cell]; rfl) hsh (g2.frozen _)).mono ?_
   rintro e w' ⟨rfl, rfl⟩
   have hw : Keep (fun k => k ≠ b) w (w.setCell ⟨b, 0, none⟩ (.pointer (some ⟨b, 0, none⟩))) := Keep.setCell w (fun h => h rfl) _
   have hB : BoxRel (Im V ρ (lk (argBx 0 [.val false [.ptr (0, 0) 0]] ++ [((0, 0), Box.st 151 [.d (.v (.pointer none)), .zero])]))) ρ (fun _ => True) (w.setCell ⟨b, 0, none⟩ (.pointer (some ⟨b, 0, none⟩))) (0, 0) (.st 151 [.ptr (0, 0) 0, .zero]) :=
    ⟨b, [.pointer (some ⟨b, 0, none⟩), v2], g1, by have := g2.put 0 (.pointer (some ⟨b, 0, none⟩)); simpa using this, .cons ⟨trivial, b, g1, rfl⟩ (.cons x2 .nil)⟩
   have hS := hR.set (ok' := fun _ => True) (fun _ _ => trivial) (q := (0, 0)) rfl rfl rfl g1 hw hB none (fun _ h => by cases h)
   refine ⟨_, ρ, rfl, hS.ret (fun _ h => h) (fun q box hq => ?_) ⟨[], rfl, .nil⟩⟩
   rw [updB_one]
   by_cases e : q = (0, 0)
   ·subst e; rw [if_pos rfl]; exact hq
   ·rw [show lk (ioBx 0 [.val false [.ptr (0, 0) 0]] [] ++ [((0, 0), Box.st 151 [.ptr (0, 0) 0, .zero])]) q = none from if_neg e] at hq
    cases hq
  ·cases he
 ·rename_i T' ty sz rows
  split at he
  ·rename_i hT
   subst hT
   cases he
   intro V X Z ρ w vals hl hR
   have hv := vals_one hl
   obtain ⟨hok, b, hg, hp⟩ := slot1_sound (c := .ptr (0, 0) 0) rfl (args_val hR (i := 0) rfl).2
   obtain ⟨b', vs, g1, g2, g3⟩ := (hR.bx (0, 0) (.st 151 [.ptr (0, 0) 0, .own (1, 0)]) rfl).2
   obtain rfl : b = b' := by rw [g1] at hg; cases hg; rfl
   cases g3 with
   | cons x1 y1 =>
   obtain ⟨_, b2, h2, rfl⟩ := x1
   obtain rfl : b = b2 := by rw [g1] at h2; cases h2; rfl
   rw [hv, hp]
   refine (cc_used b w (by rw [g2.cell]; rfl)).mono ?_
   rintro e w' ⟨rfl, rfl⟩
   exact ⟨_, ρ, rfl, hR.ret (fun _ _ => trivial) (fun q box hq => hq) ⟨[], rfl, .nil⟩⟩
  ·cases he
 ·cases he
end Go.Proofs.YtbafhclppppkgaaGreatDoor

