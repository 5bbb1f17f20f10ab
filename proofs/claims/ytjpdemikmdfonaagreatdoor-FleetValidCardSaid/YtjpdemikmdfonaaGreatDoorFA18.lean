/- Rules of runs and contracts of functions, for the claims of one seat. -/
import Derived.Test.YtjpdemikmdfonaaGreatDoorFA14
import Derived.Test.YtjpdemikmdfonaaGreatDoorFA15
import Derived.Test.YtjpdemikmdfonaaGreatDoorFA17
namespace Go.Proofs.YtjpdemikmdfonaaGreatDoor
open Go Go.RowKit
set_option maxRecDepth 100000
set_option maxHeartbeats 8000000
set_option linter.unusedSimpArgs false
set_option linter.unusedVariables false
def smT (t : TypD) : Prop := (t.syms.length ≤ 5900000000000 ∧ t.mems.length ≤ 5900000000000) ∧ ∀ k, k < t.mems.length → smV (t.mems.getD k nilM0).dflt
def smTs (l : List TypD) : Prop := l.length ≤ 5900000000000 ∧ ∀ i, i < l.length → smT (l.getD i nilT0)
theorem schema_at {l : List TypD} {i : Nat} {e : Int} (hl : ¬ (32 : Int) < l.length) (hi : i < l.length) (h0 : ∀ j, j < i → typErr l j = 0) (he : typErr l i = e) (hne : e ≠ 0) : e = schemaErr l := by
 unfold schemaErr
 rw [if_neg (by omega), firstE_at hi h0 he hne]
theorem schema_end {l : List TypD} {i : Nat} (hl : ¬ (32 : Int) < l.length) (hi : ¬ (i : Int) < l.length) (h0 : ∀ j, j < i → typErr l j = 0) : 0 = schemaErr l := by
 unfold schemaErr
 rw [if_neg (by omega), firstE_zero fun j hj => h0 j (by omega)]
theorem schema_many {l : List TypD} (hl : (32 : Int) < l.length) : 3 = schemaErr l := by
 unfold schemaErr
 rw [if_pos (by omega)]
theorem typ_form {l : List TypD} {i : Nat} (h : formP (l.getD i nilT0) = false) : typErr l i = 1 := by
 unfold typErr; rw [if_pos (.inl h)]
theorem dup_yes {l : List TypD} {i k : Nat} (hk : k < i) (h : (l.getD k nilT0).name = (l.getD i nilT0).name) : dupT l i = true := by
 unfold dupT
 rw [List.any_eq_true]
 exact ⟨k, List.mem_range.2 hk, decide_eq_true h⟩
theorem dup_no {l : List TypD} {i : Nat} (h : ∀ k, k < i → ¬ (l.getD k nilT0).name = (l.getD i nilT0).name) : dupT l i = false := by
 unfold dupT
 rw [List.any_eq_false]
 intro k hk
 simpa using h k (List.mem_range.1 hk)
theorem typ_dup {l : List TypD} {i k : Nat} (hk : k < i) (hn : namedK (l.getD i nilT0).kind = true) (h : (l.getD k nilT0).name = (l.getD i nilT0).name) : typErr l i = 1 := by
 unfold typErr; rw [if_pos (.inr ⟨hn, dup_yes hk h⟩)]
def typGo (l : List TypD) (i : Nat) : Prop := ¬ (formP (l.getD i nilT0) = false ∨ namedK (l.getD i nilT0).kind = true ∧ dupT l i = true)
theorem typGo_of {l : List TypD} {i : Nat} (h : formP (l.getD i nilT0) = true) (hd : namedK (l.getD i nilT0).kind = true → ∀ k, k < i → ¬ (l.getD k nilT0).name = (l.getD i nilT0).name) : typGo l i := by
 rintro (g | ⟨g, g2⟩)
 ·rw [h] at g; cases g
 ·rw [dup_no (hd g)] at g2; cases g2
theorem any_at {α : Type} {l : List α} {p : α → Bool} {d : α} {j : Nat} (hj : j < l.length) (h : p (l.getD j d) = true) : l.any p = true := by
 rw [List.any_eq_true]
 exact ⟨l.getD j d, by simp [List.getD, hj], h⟩
theorem any_not {α : Type} {l : List α} {p : α → Bool} {d : α} (h : ∀ j, j < l.length → p (l.getD j d) = false) : l.any p = false := by
 rw [List.any_eq_false]
 intro x hx
 obtain ⟨j, hj, rfl⟩ := List.getElem_of_mem hx
 have := h j hj
 simpa [List.getD, hj] using this
theorem typ_out {l : List TypD} {i j : Nat} (hg : typGo l i) (hj : j < (usesP (l.getD i nilT0)).length) (h : outT l.length ((usesP (l.getD i nilT0)).getD j 0) = true) : typErr l i = 4 := by
 unfold typErr; rw [if_neg hg, if_pos (any_at hj h)]
theorem typ_key {l : List TypD} {i : Nat} (hg : typGo l i) (hu : ∀ j, j < (usesP (l.getD i nilT0)).length → outT l.length ((usesP (l.getD i nilT0)).getD j 0) = false) (hk : (l.getD i nilT0).kind = 8 ∧ ¬ (1 ≤ (l.getD (l.getD i nilT0).key.toNat nilT0).kind ∧ (l.getD (l.getD i nilT0).key.toNat nilT0).kind ≤ 4)) : typErr l i = 1 := by
 unfold typErr; rw [if_neg hg, if_neg (by rw [any_not hu]; decide), if_pos hk]
theorem typ_ok {l : List TypD} {i : Nat} (hg : typGo l i) (hu : ∀ j, j < (usesP (l.getD i nilT0)).length → outT l.length ((usesP (l.getD i nilT0)).getD j 0) = false) (hk : ¬ ((l.getD i nilT0).kind = 8 ∧ ¬ (1 ≤ (l.getD (l.getD i nilT0).key.toNat nilT0).kind ∧ (l.getD (l.getD i nilT0).key.toNat nilT0).kind ≤ 4))) : typErr l i = 0 := by
 unfold typErr; rw [if_neg hg, if_neg (by rw [any_not hu]; decide), if_neg hk]
theorem form_kind {t : TypD} (h : formP t = true) : 1 ≤ t.kind ∧ t.kind ≤ 9 := by
 unfold formP at h
 simp only [Bool.and_eq_true, decide_eq_true_eq] at h
 exact h.1.1.1.1.1.1.1
theorem usesR_eq {t : TypD} (h : formP t = true) : usesR t = usesP t := by
 have h9 := form_kind h
 have e : (7 ≤ t.kind ∧ t.kind ≤ 9) = (7 ≤ t.kind) := propext ⟨fun a => a.1, fun a => ⟨a, by omega⟩⟩
 unfold usesR usesP
 simp only [e]
theorem uses_key {t : TypD} (h : t.kind = 8) {n : Nat} (hu : ∀ j, j < (usesP t).length → outT n ((usesP t).getD j 0) = false) : 0 ≤ t.key ∧ t.key < n := by
 have hj : t.mems.length < (usesP t).length := by unfold usesP; rw [if_pos h]; simp
 have := hu t.mems.length hj
 unfold usesP outT at this
 rw [if_pos h] at this
 simp [List.getD] at this
 omega
theorem usesR_few {t : TypD} (h : t.mems.length ≤ 5900000000000) : (usesR t).length ≤ 5900000000002 := by
 unfold usesR
 simp only [List.length_append, List.length_map]
 (repeat' split) <;> simp <;> omega
theorem nf {b : Bool} (h : (!b) = false) : b = true := by cases b; cases h; rfl
theorem nt {b : Bool} (h : (!b) = true) : b = false := by cases b; rfl; cases h
theorem rschema_fn (l : List TypD) (hs : smTs l) : FnSound Tryz.prog 110 [.val true (schC l)] [] { vals := [(false, [.d (.v (.int .i64 (schemaErr l)))])] } := by
 obtain ⟨hl, ht⟩ := hs
 have hur := fun (i : Nat) (h : i < l.length) => usesR_few (ht i h).1.2
 refine startW (tm := [(0, _)]) Tryz.func110 rfl Tryz.ntmps110 rfl rfl rfl rfl ?_
 repeat' (first
 |(with_reducible refine rgn 6 600 ?_ ?_); exact rfl
 |(with_reducible refine rgn 7 700 ?_ ?_); exact rfl
 |(with_reducible refine rgn 8 800 ?_ ?_); exact rfl
 |(with_reducible refine rgn 9 900 ?_ ?_); exact rfl
 |(with_reducible refine rgn 10 1000 ?_ ?_); exact rfl
 |(with_reducible refine rgn 12 1100 ?_ ?_); exact rfl
 |(with_reducible refine rgn 13 1200 ?_ ?_); exact rfl
 |(with_reducible refine rgn 11 1300 ?_ ?_); exact rfl
 |(with_reducible refine rgn 14 1400 ?_ ?_); exact rfl
 |(with_reducible refine rgn 15 1500 ?_ ?_); exact rfl
 |(with_reducible refine rgn 16 1600 ?_ ?_); exact rfl
 |(with_reducible refine rgn 18 1700 ?_ ?_); exact rfl
 |(with_reducible refine rgn 19 1800 ?_ ?_); exact rfl
 |(with_reducible refine rgn 17 1900 ?_ ?_); exact rfl
 |(with_reducible refine rgn 20 2000 ?_ ?_); exact rfl
 |(with_reducible refine rgn 21 2100 ?_ ?_); exact rfl
 |(with_reducible refine rgn 5 2200 ?_ ?_); exact rfl
 |(with_reducible refine K_ca 152 ?_); (first
 |refine W.call0A rfl BoC.h (rown_fn _ (ht _ (by omega)).1 (ht _ (by omega)).2) rfl rfl rfl ?_
 |refine W.call1A rfl BoC.h (rown_fn _ (ht _ (by omega)).1 (ht _ (by omega)).2) rfl rfl rfl rfl rfl ?_)
 |(with_reducible refine K_ca 153 ?_); refine zC (named_fn _) ?_
 |(with_reducible refine K_ca 154 ?_); (first
 |refine W.call0A rfl BoC.h (ruses_fn _ (ht _ (by omega)).1.2) rfl rfl rfl ?_
 |refine W.call1A rfl BoC.h (ruses_fn _ (ht _ (by omega)).1.2) rfl rfl rfl rfl rfl ?_)
 |(with_reducible refine K_ca 155 ?_); refine zC (keykind_fn _) ?_
 |(with_reducible refine blk_at (id := 0) ?_); ((with_reducible refine JL.loopW 0 499 (fun (i : Nat) tm => (3, .one false [.d (.v (.int .i64 ((i : Int))))]) :: tm) (fun (i : Nat) bo => bo) (fun (i : Nat) => i ≤ l.length ∧ ∀ j, j < i → typErr l j = 0) (fun (i : Nat) => l.length - i) (0) ?_ (fun i hi => ?_) ?_); (focus (apply SubW [] rfl ?_ ?_ rfl ?_; (repeat' (first | exact kA | refine kB ?_ | refine kC ?_ ?_ | exact kD | fail)))))
 |((with_reducible refine round_next (i := i) (i + 1) ?_ ?_ ?_); (focus (apply SubW [] rfl ?_ ?_ rfl ?_; (repeat' (first | exact kA | refine kB ?_ | refine kC ?_ ?_ | exact kD | fail)))))
 |(with_reducible refine blk_at (id := 2) ?_); ((with_reducible refine JL.loopW 2 999 (fun (k : Nat) tm => (5, .one false [.d (.v (.int .i64 ((k : Int))))]) :: tm) (fun (k : Nat) bo => bo) (fun (k : Nat) => k ≤ i ∧ formP (l.getD i nilT0) = true ∧ (namedK (l.getD i nilT0).kind = true → ∀ j, j < k → ¬ (l.getD j nilT0).name = (l.getD i nilT0).name)) (fun (k : Nat) => i - k) (0) ?_ (fun k hk => ?_) ?_); (focus (apply SubW [] rfl ?_ ?_ rfl ?_; (repeat' (first | exact kA | refine kB ?_ | refine kC ?_ ?_ | exact kD | fail)))))
 |((with_reducible refine round_next (i := k) (k + 1) ?_ ?_ ?_); (focus (apply SubW [] rfl ?_ ?_ rfl ?_; (repeat' (first | exact kA | refine kB ?_ | refine kC ?_ ?_ | exact kD | fail)))))
 |(with_reducible refine blk_at (id := 4) ?_); ((with_reducible refine JL.loopW 4 1599 (fun (u : Nat) tm => (7, .one false [.d (.v (.int .i64 ((u : Int))))]) :: tm) (fun (u : Nat) bo => bo) (fun (u : Nat) => u ≤ (usesR (l.getD i nilT0)).length ∧ typGo l i ∧ ∀ j, j < u → outT l.length ((usesP (l.getD i nilT0)).getD j 0) = false) (fun (u : Nat) => (usesR (l.getD i nilT0)).length - u) (0) ?_ (fun u hu => have hui := hur i (by omega); have hus := usesR_eq (nf (b := formP (l.getD i nilT0)) (by assumption)); have hlen := congrArg List.length hus; ?_) ?_); (focus (apply SubW [] rfl ?_ ?_ rfl ?_; (repeat' (first | exact kA | refine kB ?_ | refine kC ?_ ?_ | exact kD | fail)))))
 |((with_reducible refine round_next (i := u) (u + 1) ?_ ?_ ?_); (focus (apply SubW [] rfl ?_ ?_ rfl ?_; (repeat' (first | exact kA | refine kB ?_ | refine kC ?_ ?_ | exact kD | fail)))))
 |refine wA ?_
 |(refine wC ?_ ?_ <;> intro hc)
 |refine wB ?_ ?_
 |(with_reducible refine JL.block ?_)
 |(with_reducible refine F_at ?_); refine eW (vs := [(_, _)]) Tryz.results110 ?_; (focus (repeat' (first | exact oA | refine oB ?_ | refine oC ?_ ?_ | fail)))
 |exact oM
 |fail)
 all_goals first
  | rfl
  | omega
  | exact schema_many hc
  | exact schema_end ‹_› hc hi.2
  | exact schema_at ‹_› (by omega) hi.2 (typ_form (nt hc)) (by decide)
  | exact schema_at ‹_› (by omega) hi.2 (typ_dup (k := k) (by omega) (decide_eq_true (by assumption)) hc) (by decide)
  | exact ⟨by omega, hk.2.1, fun hn => lt_next (hk.2.2 hn) hc⟩
  | exact ⟨by omega, hk.2.1, fun hn => absurd (of_decide_eq_true hn) hc⟩
  | exact schema_at ‹_› (by omega) hi.2 (typ_out (j := u) hu.2.1 (by omega) (by rw [← hus]; exact decide_eq_true (by omega))) (by decide)
  | exact ⟨by omega, hu.2.1, lt_next hu.2.2 (by rw [← hus]; exact decide_eq_false (by omega))⟩
  | exact uses_key hc (fun j hj => hu.2.2 j (by omega))
  | exact schema_at ‹_› (by omega) hi.2 (typ_key hu.2.1 (fun j hj => hu.2.2 j (by omega)) ⟨by assumption, hc⟩) (by decide)
  | exact ⟨by omega, lt_next hi.2 (typ_ok hu.2.1 (fun j hj => hu.2.2 j (by omega)) (fun a => a.2 hc))⟩
  | exact ⟨by omega, lt_next hi.2 (typ_ok hu.2.1 (fun j hj => hu.2.2 j (by omega)) (fun a => hc a.1))⟩
  | exact ⟨Nat.zero_le _, typGo_of (nf (by assumption)) (fun hn j hj => hk.2.2 hn j (by omega)), fun j hj => absurd hj (Nat.not_lt_zero j)⟩
  | exact ⟨Nat.zero_le _, nf hc, fun _ j hj => absurd hj (Nat.not_lt_zero j)⟩
  | exact ⟨Nat.zero_le _, fun j hj => absurd hj (Nat.not_lt_zero j)⟩
  | trace_state
end Go.Proofs.YtjpdemikmdfonaaGreatDoor

