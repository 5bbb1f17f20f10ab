/- Rules of runs and contracts of functions, for the claims of one seat. -/
import Derived.Test.YtjpdemikmdfonaaGreatDoorFA15
import Derived.Test.YtjpdemikmdfonaaGreatDoorFA19
import Derived.Test.YtjpdemikmdfonaaGreatDoorFA20
import Derived.Test.YtjpdemikmdfonaaGreatDoorFA21
namespace Go.Proofs.YtjpdemikmdfonaaGreatDoor
open Go Go.RowKit
set_option maxRecDepth 100000
set_option maxHeartbeats 8000000
set_option linter.unusedSimpArgs false
set_option linter.unusedVariables false
theorem find_some {α : Type} {l : List α} {p : α → Bool} {d : α} {i : Nat} (hi : i < l.length) (h : ∀ j, j < i → p (l.getD j d) = false) (hp : p (l.getD i d) = true) : l.findIdx? p = some i := by
 rw [List.findIdx?_eq_some_iff_getElem]
 refine ⟨hi, by simpa [List.getD, hi] using hp, fun j hj => ?_⟩
 have := h j hj
 simpa [List.getD, Nat.lt_trans hj hi] using this
theorem find_none {α : Type} {l : List α} {p : α → Bool} {d : α} (h : ∀ j, j < l.length → p (l.getD j d) = false) : l.findIdx? p = none := by
 rw [List.findIdx?_eq_none_iff]
 intro x hx
 obtain ⟨i, hi, rfl⟩ := List.getElem_of_mem hx
 have := h i hi
 simpa [List.getD, hi] using this
def badM (l : List TypD) (m : MemD) : Bool := m.has && !plainP l m.typ m.dflt
def badT (l : List TypD) (t : TypD) : Bool := t.mems.any (badM l)
def defT (l : List TypD) : Int := (((l.findIdx? (badT l)).getD 0 : Nat) : Int)
def defM (l : List TypD) : Int := match l.findIdx? (badT l) with
 | some i => match (l.getD i nilT0).mems.findIdx? (badM l) with
  | some k => ((l.getD i nilT0).mems.getD k nilM0).id
  | none => 0
 | none => 0
theorem badM_eq (l : List TypD) (m : MemD) : (!m.has || plainP l m.typ m.dflt) = !badM l m := by
 unfold badM; cases m.has <;> simp
theorem defErr_eq (l : List TypD) : defErr l = if l.any (badT l) = true then 1 else 0 := by
 unfold defErr badT
 simp only [badM_eq]
 have h : (l.all fun t => t.mems.all fun m => !badM l m) = !(l.any fun t => t.mems.any (badM l)) := by
  rw [List.not_any_eq_all_not]
  congr 1
  funext t
  rw [List.not_any_eq_all_not]
 rw [h]
 cases l.any fun t => t.mems.any (badM l) <;> rfl
section
variable {l : List TypD} {i k : Nat}
theorem def_bad (hi : i < l.length) (h : ∀ j, j < i → badT l (l.getD j nilT0) = false) (hk : k < (l.getD i nilT0).mems.length) (h2 : ∀ j, j < k → badM l ((l.getD i nilT0).mems.getD j nilM0) = false) (hb : badM l ((l.getD i nilT0).mems.getD k nilM0) = true) : defT l = i ∧ defM l = ((l.getD i nilT0).mems.getD k nilM0).id ∧ defErr l = 1 := by
 have hT : badT l (l.getD i nilT0) = true := any_at hk hb
 have h3 := find_some (p := badT l) hi h hT
 have h4 := find_some (p := badM l) hk h2 hb
 refine ⟨by unfold defT; rw [h3]; rfl, by unfold defM; rw [h3]; simp only [h4], ?_⟩
 rw [defErr_eq, if_pos (any_at hi hT)]
theorem def_ok (h : ∀ j, j < l.length → badT l (l.getD j nilT0) = false) : defT l = 0 ∧ defM l = 0 ∧ defErr l = 0 := by
 have h3 := find_none (p := badT l) h
 refine ⟨by unfold defT; rw [h3]; rfl, by unfold defM; rw [h3], ?_⟩
 rw [defErr_eq, any_not h]; rfl
end
theorem badM_y {l : List TypD} {m : MemD} (h : m.has = true) (h2 : (!plainP l m.typ m.dflt) = true) : badM l m = true := by unfold badM; rw [h, h2]; rfl
theorem badM_n {l : List TypD} {m : MemD} (h : m.has = false ∨ (!plainP l m.typ m.dflt) = false) : badM l m = false := by
 unfold badM
 rcases h with h | h <;> rw [h]
 ·rfl
 ·exact Bool.and_false _
theorem rdef_fn (l : List TypD) (hS : SchOk l) : FnSound Tryz.prog 150 [.val true (schC l)] [] { vals := [(false, [.d (.v (.int .i64 (defT l)))]), (false, [.d (.v (.int .i64 (defM l)))]), (false, [.d (.v (.int .i64 (defErr l)))])] } := by
 have hv := rschema_fn l hS.sm
 rw [hS.ok] at hv
 have hl := hS.sm.1
 have hm := fun (i : Nat) (h : i < l.length) => (hS.sm.2 i h).1.2
 refine startW (tm := [(0, _)]) Tryz.func150 rfl Tryz.ntmps150 rfl rfl rfl rfl ?_
 repeat' (first
 |(with_reducible refine rgn 7 700 ?_ ?_); exact rfl
 |(with_reducible refine rgn 8 800 ?_ ?_); exact rfl
 |(with_reducible refine rgn 9 900 ?_ ?_); exact rfl
 |(with_reducible refine rgn 11 1000 ?_ ?_); exact rfl
 |(with_reducible refine rgn 12 1100 ?_ ?_); exact rfl
 |(with_reducible refine rgn 10 1200 ?_ ?_); exact rfl
 |(with_reducible refine rgn 6 1300 ?_ ?_); exact rfl
 |(with_reducible refine K_ca 110 ?_); refine zC (hv) ?_
 |(with_reducible refine K_ca 208 ?_); (first
 |refine W.call0A rfl BoC.h (rplain8_fn l hS _ _ ((hS.sm.2 i (by omega)).2 k (by omega))) rfl rfl rfl ?_
 |refine W.call1A rfl BoC.h (rplain8_fn l hS _ _ ((hS.sm.2 i (by omega)).2 k (by omega))) rfl rfl rfl rfl rfl ?_)
 |(with_reducible refine blk_at (id := 0) ?_); ((with_reducible refine JL.loopW 0 599 (fun (i : Nat) tm => (6, .one false [.d (.v (.int .i64 ((i : Int))))]) :: tm) (fun (i : Nat) bo => bo) (fun (i : Nat) => i ≤ l.length ∧ ∀ j, j < i → badT l (l.getD j nilT0) = false) (fun (i : Nat) => l.length - i) (0) ?_ (fun i hi => have hmi := hm i; ?_) ?_); (focus (apply SubW [] rfl ?_ ?_ rfl ?_; (repeat' (first | exact kA | refine kB ?_ | refine kC ?_ ?_ | exact kD | fail)))))
 |((with_reducible refine round_next (i := i) (i + 1) ?_ ?_ ?_); (focus (apply SubW [] rfl ?_ ?_ rfl ?_; (repeat' (first | exact kA | refine kB ?_ | refine kC ?_ ?_ | exact kD | fail)))))
 |(with_reducible refine blk_at (id := 2) ?_); ((with_reducible refine JL.loopW 2 899 (fun (k : Nat) tm => (8, .one false [.d (.v (.int .i64 ((k : Int))))]) :: tm) (fun (k : Nat) bo => bo) (fun (k : Nat) => k ≤ (l.getD i nilT0).mems.length ∧ ∀ j, j < k → badM l ((l.getD i nilT0).mems.getD j nilM0) = false) (fun (k : Nat) => (l.getD i nilT0).mems.length - k) (0) ?_ (fun k hk => ?_) ?_); (focus (apply SubW [] rfl ?_ ?_ rfl ?_; (repeat' (first | exact kA | refine kB ?_ | refine kC ?_ ?_ | exact kD | fail)))))
 |((with_reducible refine round_next (i := k) (k + 1) ?_ ?_ ?_); (focus (apply SubW [] rfl ?_ ?_ rfl ?_; (repeat' (first | exact kA | refine kB ?_ | refine kC ?_ ?_ | exact kD | fail)))))
 |refine wA ?_
 |(refine wC ?_ ?_ <;> intro hc)
 |refine wB ?_ ?_
 |(with_reducible refine JL.block ?_)
 |(with_reducible refine F_at ?_); refine eW (vs := [(_, _), (_, _), (_, _)]) Tryz.results150 ?_; (focus (repeat' (first | exact oA | refine oB ?_ | refine oC ?_ ?_ | fail)))
 |exact oM
 |fail)
 all_goals first
  | with_reducible rfl
  | omega
  | exact ⟨Nat.zero_le _, fun j hj => absurd hj (Nat.not_lt_zero j)⟩
  | exact (def_bad (i := i) (k := k) (by omega) hi.2 (by omega) hk.2 (badM_y (by assumption) hc)).1.symm
  | exact (def_bad (i := i) (k := k) (by omega) hi.2 (by omega) hk.2 (badM_y (by assumption) hc)).2.1.symm
  | exact (def_bad (i := i) (k := k) (by omega) hi.2 (by omega) hk.2 (badM_y (by assumption) hc)).2.2.symm
  | exact ⟨by omega, lt_next hk.2 (badM_n (.inr hc))⟩
  | exact ⟨by omega, lt_next hk.2 (badM_n (.inl hc))⟩
  | exact ⟨by omega, lt_next hi.2 (any_not (d := nilM0) (fun j hj => hk.2 j (by omega)))⟩
  | exact (def_ok (l := l) (fun j hj => hi.2 j (by omega))).1.symm
  | exact (def_ok (l := l) (fun j hj => hi.2 j (by omega))).2.1.symm
  | exact (def_ok (l := l) (fun j hj => hi.2 j (by omega))).2.2.symm
  | trace_state
theorem recC_next {n : List Int} {ms : List MemD} {k : Nat} (h : k < ms.length) : recC n (ms.take (k + 1)) = min 2 (recC n (ms.take k) * nAt n (ms.getD k nilM0).typ) := by
 unfold recC
 rw [List.take_add_one, List.foldl_append]
 simp [List.getD, h]
theorem uniC_next {n : List Int} {ms : List MemD} {k : Nat} (h : k < ms.length) : uniC n (ms.take (k + 1)) = min 2 (uniC n (ms.take k) + nAt n (ms.getD k nilM0).typ) := by
 unfold uniC
 rw [List.take_add_one, List.foldl_append]
 simp [List.getD, h]
theorem uniS_next {n : List Int} {ms : List MemD} {k : Nat} (h : k < ms.length) : uniS n (ms.take (k + 1)) = uniS n (ms.take k) + nAt n (ms.getD k nilM0).typ := by
 unfold uniS
 rw [List.take_add_one, List.foldl_append]
 simp [List.getD, h]
theorem min_if {a : Int} : (if a < 2 then a else 2) = min 2 a := by split <;> omega
theorem mul22 {a b : Int} (ha : 0 ≤ a ∧ a ≤ 2) (hb : 0 ≤ b ∧ b ≤ 2) : -9223372036854775808 ≤ a * b ∧ a * b ≤ 9223372036854775807 := by
 have h : a = 0 ∨ a = 1 ∨ a = 2 := by omega
 rcases h with rfl | rfl | rfl <;> omega
theorem recC_step {n : List Int} {ms : List MemD} {k : Nat} (hn : okN n) (h : k < ms.length) : (if IntKind.i64.wrap (recC n (ms.take k) * n.getD (ms.getD k nilM0).typ.toNat 0) < 2 then IntKind.i64.wrap (recC n (ms.take k) * n.getD (ms.getD k nilM0).typ.toNat 0) else 2) = recC n (ms.take (k + 1)) := by
 have h1 : 0 ≤ recC n (ms.take k) ∧ recC n (ms.take k) ≤ 2 := (recC_fold hn (ms.take k) 1 (by omega)).1
 rw [wrapI (mul22 h1 (hn _)), min_if, recC_next h]; rfl
theorem uniC_step {n : List Int} {ms : List MemD} {k : Nat} (hn : okN n) (h : k < ms.length) : (if IntKind.i64.wrap (uniC n (ms.take k) + n.getD (ms.getD k nilM0).typ.toNat 0) < 2 then IntKind.i64.wrap (uniC n (ms.take k) + n.getD (ms.getD k nilM0).typ.toNat 0) else 2) = uniC n (ms.take (k + 1)) := by
 have h1 : 0 ≤ uniC n (ms.take k) ∧ uniC n (ms.take k) ≤ 2 := (uniC_fold hn (ms.take k) 0 (by omega)).1
 have h2 := hn (ms.getD k nilM0).typ.toNat
 rw [wrapI (by omega), min_if, uniC_next h]; rfl
theorem rcount_fn (l : List TypD) (t : TypD) (n : List Int) (ht : TypIn l t) (hn : n.length = l.length) (hl : l.length ≤ 32) (ho : okN n) : FnSound Tryz.prog 151 [.val true (typC t), .val false [.d (.sl 1 (dInts n))]] [] { vals := [(false, [.d (.v (.int .i64 (countR n t)))])] } := by
 have hm := ht.mem
 have hf := ht.few
 have he := ht.elem
 have hr := fun k => (recC_fold ho (t.mems.take k) 1 (by omega)).1
 have hu := fun k => (uniC_fold ho (t.mems.take k) 0 (by omega)).1
 have hN := fun (i : Int) => ho i.toNat
 have hNe := hN t.elem
 refine startW (tm := [(0, _), (1, _)]) Tryz.func151 rfl Tryz.ntmps151 rfl rfl rfl rfl ?_
 repeat' (first
 |(with_reducible refine rgn 15 1500 ?_ ?_); exact rfl
 |(with_reducible refine rgn 14 1600 ?_ ?_); exact rfl
 |(with_reducible refine rgn 22 2200 ?_ ?_); exact rfl
 |(with_reducible refine rgn 21 2300 ?_ ?_); exact rfl
 |(with_reducible refine blk_at (id := 1) ?_); ((with_reducible refine JL.loopW 1 1399 (fun (k : Nat) tm => (6, .one false [.d (.v (.int .i64 ((k : Int))))]) :: (5, .one false [.d (.v (.int .i64 ((recC n (t.mems.take k)))))]) :: tm) (fun (k : Nat) bo => bo) (fun (k : Nat) => k ≤ t.mems.length) (fun (k : Nat) => t.mems.length - k) (0) ?_ (fun k hk => have hmk := hm k; have hrk := hr k; have hNk := hN (t.mems.getD k nilM0).typ; ?_) ?_); (focus (apply SubW [] rfl ?_ ?_ rfl ?_; (repeat' (first | exact kA | refine kB ?_ | refine kC ?_ ?_ | exact kD | fail)))))
 |((with_reducible refine round_next (i := k) (k + 1) ?_ ?_ ?_); (focus (apply SubW [] rfl ?_ ?_ rfl ?_; (repeat' (first | exact kA | refine kB ?_ | refine kC ?_ ?_ | exact kD | fail)))))
 |(with_reducible refine blk_at (id := 3) ?_); ((with_reducible refine JL.loopW 3 2099 (fun (j : Nat) tm => (8, .one false [.d (.v (.int .i64 ((j : Int))))]) :: (7, .one false [.d (.v (.int .i64 ((uniC n (t.mems.take j)))))]) :: tm) (fun (j : Nat) bo => bo) (fun (j : Nat) => j ≤ t.mems.length) (fun (j : Nat) => t.mems.length - j) (0) ?_ (fun j hj => have hmk := hm j; have hrk := hu j; have hNk := hN (t.mems.getD j nilM0).typ; ?_) ?_); (focus (apply SubW [] rfl ?_ ?_ rfl ?_; (repeat' (first | exact kA | refine kB ?_ | refine kC ?_ ?_ | exact kD | fail)))))
 |((with_reducible refine round_next (i := j) (j + 1) ?_ ?_ ?_); (focus (apply SubW [] rfl ?_ ?_ rfl ?_; (repeat' (first | exact kA | refine kB ?_ | refine kC ?_ ?_ | exact kD | fail)))))
 |refine wA ?_
 |(refine wC ?_ ?_ <;> intro hc)
 |refine wB ?_ ?_
 |(with_reducible refine JL.block ?_)
 |(with_reducible refine F_at ?_); refine eW (vs := [(_, _)]) Tryz.results151 ?_; (focus (repeat' (first | exact oA | refine oB ?_ | refine oC ?_ ?_ | fail)))
 |exact oM
 |fail)
 all_goals first
  | with_reducible rfl
  | omega
  | (with_reducible exact recC_step ho (by omega))
  | (with_reducible exact uniC_step ho (by omega))
  | (rw [List.take_of_length_le (by omega)]; unfold countR; (repeat' split) <;> first | omega | rfl | (exfalso; omega))
  | (rw [min_if]; unfold countR nAt; (repeat' split) <;> first | omega | rfl | (exfalso; omega))
  | (unfold countR nAt; (repeat' split) <;> first | omega | rfl | (exfalso; omega))
  | trace_state
end Go.Proofs.YtjpdemikmdfonaaGreatDoor

namespace Go.Proofs.YtjpdemikmdfonaaGreatDoor
open Go Go.RowKit
set_option maxRecDepth 100000
set_option maxHeartbeats 8000000
set_option linter.unusedSimpArgs false
set_option linter.unusedVariables false
theorem iter_len {c : List Int → TypD → Int} (hc : CntOk c) (l : List TypD) (k : Nat) : (iterA c l k).length = l.length := (inv_iter hc l k).len
theorem pass_inv {c : List Int → TypD → Int} (hc : CntOk c) (l : List TypD) (k i : Nat) (hi : i ≤ l.length) : InvN c l (passN c l (iterA c l k) i) := ((inv_iter hc l k).pass hc i hi).1
theorem rcounts_fn (l : List TypD) (hS : SchOk l) : FnSound Tryz.prog 109 [.val true (schC l)] [] { vals := [(false, [.d (.sl 1 (dInts (countsA countR l)))])] } := by
 have hl := schema_few hS.ok
 have hp := fun (k i : Nat) (hi : i ≤ l.length) => pass_inv cntR_ok l k i hi
 have hT := fun (i : Nat) (hi : i < l.length) => typIn_of hS.ok hi
 refine startW (tm := [(0, _)]) Tryz.func109 rfl Tryz.ntmps109 rfl rfl rfl rfl ?_
 repeat' (first
 |(with_reducible refine JL.regionW (lend := (fun g => g == 151)) (id := 5) 500 mo ?_ ?_); exact rfl
 |(with_reducible refine JL.regionW (lend := (fun g => g == 151)) (id := 6) 600 mo ?_ ?_); exact rfl
 |(with_reducible refine JL.regionW (lend := (fun g => g == 151)) (id := 8) 700 mo ?_ ?_); exact rfl
 |(with_reducible refine JL.regionW (lend := (fun g => g == 151)) (id := 4) 900 mo ?_ ?_); exact rfl
 |(with_reducible refine rgL (fun g => g == 151) ?_ ?_); exact rfl
 |(with_reducible refine K_ca 151 ?_); (first
 |refine W.call0A rfl BoC.h (rcount_fn l _ (passN countR l (iterA countR l k) i) (hT _ (by omega)) hpi.len hl hpi.ok) rfl rfl rfl ?_
 |refine W.call1A rfl BoC.h (rcount_fn l _ (passN countR l (iterA countR l k) i) (hT _ (by omega)) hpi.len hl hpi.ok) rfl rfl rfl rfl rfl ?_)
 |(with_reducible refine blk_at (id := 0) ?_); (try (refine JL.zeroW 3 _ 3 1 rfl rfl ?_)); (refine JL.rekW 3 (1048, 351) rfl rfl rfl rfl ?_); ((with_reducible refine JL.loopW 0 399 (fun (k : Nat) tm => (4, .one false [.d (.v (.int .i64 ((k : Int))))]) :: (3, .one false [.own (1048, 351)]) :: tm) (fun (k : Nat) bo => ((1048, 351), some (.sl 3 1 ((dInts (iterA countR l k))))) :: bo) (fun (k : Nat) => k ≤ 2 * l.length + 1) (fun (k : Nat) => 2 * l.length + 1 - k) (0) ?_ (fun k hk => have hlk := iter_len cntR_ok l k; ?_) ?_); (focus (apply SubW [((1048, 351), _)] rfl ?_ ?_ rfl ?_; (repeat' (first | exact kA | refine kB ?_ | refine kC ?_ ?_ | exact kD | fail)))))
 |((with_reducible refine round_next (i := k) (k + 1) ?_ ?_ ?_); (focus (apply SubW [((1048, 351), _)] rfl ?_ ?_ rfl ?_; (repeat' (first | exact kA | refine kB ?_ | refine kC ?_ ?_ | exact kD | fail)))))
 |(with_reducible refine blk_at (id := 2) ?_); (try (refine JL.zeroW 3 _ 3 1 rfl rfl ?_)); (refine JL.rekW 3 (1048, 551) rfl rfl rfl rfl ?_); ((with_reducible refine JL.loopW 2 599 (fun (i : Nat) tm => (5, .one false [.d (.v (.int .i64 ((i : Int))))]) :: (3, .one false [.own (1048, 551)]) :: tm) (fun (i : Nat) bo => ((1048, 551), some (.sl 3 1 ((dInts (passN countR l (iterA countR l k) i))))) :: bo) (fun (i : Nat) => i ≤ l.length) (fun (i : Nat) => l.length - i) (0) ?_ (fun i hi => have hpi := hp k i hi; have hli := hpi.len; ?_) ?_); (focus (apply SubW [((1048, 551), _)] rfl ?_ ?_ rfl ?_; (repeat' (first | exact kA | refine kB ?_ | refine kC ?_ ?_ | exact kD | fail)))))
 |((with_reducible refine round_next (i := i) (i + 1) ?_ ?_ ?_); (focus (apply SubW [((1048, 551), _)] rfl ?_ ?_ rfl ?_; (repeat' (first | exact kA | refine kB ?_ | refine kC ?_ ?_ | exact kD | fail)))))
 |refine wA ?_
 |(refine wC ?_ ?_ <;> intro hc)
 |refine wB ?_ ?_
 |(with_reducible refine JL.block ?_)
 |(with_reducible refine F_at ?_); refine eW (vs := [(_, _)]) Tryz.results109 ?_; (focus (repeat' (first | exact oA | refine oB ?_ | refine oC ?_ ?_ | fail)))
 |exact oM
 |fail)
 all_goals first
  | with_reducible rfl
  | omega
  | exact rfl
  | exact congrArg dInts (by rw [Int.toNat_natCast]; rfl)
  | (rw [show i = l.length by omega]; rfl)
  | (rw [show k = 2 * l.length + 1 by omega]; rfl)
  | trace_state
def errS (l : List TypD) : Int := if schemaErr l = 0 then defErr l else schemaErr l
theorem rerr_no (l : List TypD) (hs : smTs l) (h : ¬ schemaErr l = 0) : FnSound Tryz.prog 108 [.val true (schC l)] [] { vals := [(false, [.d (.v (.int .i64 (errS l)))])] } := by
 have e : errS l = schemaErr l := by unfold errS; rw [if_neg h]
 rw [e]
 refine startW (tm := [(0, _)]) Tryz.func108 rfl Tryz.ntmps108 rfl rfl rfl rfl ?_
 repeat' (first
 |(with_reducible refine K_ca 110 ?_); refine zC (rschema_fn l hs) ?_
 |refine wA ?_
 |(refine wC ?_ ?_ <;> intro hc)
 |refine wB ?_ ?_
 |(with_reducible refine JL.block ?_)
 |(with_reducible refine F_at ?_); refine eW (vs := [(_, _)]) Tryz.results108 ?_; (focus (repeat' (first | exact oA | refine oB ?_ | refine oC ?_ ?_ | fail)))
 |exact oM
 |fail)
 all_goals first | with_reducible rfl | exact absurd ‹_› h | trace_state
theorem rerr_ok (l : List TypD) (hS : SchOk l) : FnSound Tryz.prog 108 [.val true (schC l)] [] { vals := [(false, [.d (.v (.int .i64 (errS l)))])] } := by
 have e : errS l = defErr l := by unfold errS; rw [if_pos hS.ok]
 rw [e]
 have hv := rschema_fn l hS.sm
 rw [hS.ok] at hv
 refine startW (tm := [(0, _)]) Tryz.func108 rfl Tryz.ntmps108 rfl rfl rfl rfl ?_
 repeat' (first
 |(with_reducible refine K_ca 110 ?_); refine zC (hv) ?_
 |(with_reducible refine K_ca 150 ?_); refine zC (rdef_fn l hS) ?_
 |refine wA ?_
 |(refine wC ?_ ?_ <;> intro hc)
 |refine wB ?_ ?_
 |(with_reducible refine JL.block ?_)
 |(with_reducible refine F_at ?_); refine eW (vs := [(_, _)]) Tryz.results108 ?_; (focus (repeat' (first | exact oA | refine oB ?_ | refine oC ?_ ?_ | fail)))
 |exact oM
 |fail)
 all_goals first | with_reducible rfl | trace_state
theorem rerr_fn (l : List TypD) (hs : smTs l) : FnSound Tryz.prog 108 [.val true (schC l)] [] { vals := [(false, [.d (.v (.int .i64 (errS l)))])] } := by
 by_cases h : schemaErr l = 0
 ·exact rerr_ok l ⟨hs, h⟩
 ·exact rerr_no l hs h
theorem errS_ok {l : List TypD} (h : errS l = 0) : schemaErr l = 0 := by
 unfold errS at h
 split at h
 ·assumption
 ·exact absurd h ‹_›
def posB (n : List Int) : List Bool := n.map fun x => decide (0 < x)
theorem posB_next {n : List Int} {k : Nat} (h : k < n.length) : posB (n.take k) ++ [decide (0 < n.getD k 0)] = posB (n.take (k + 1)) := by
 unfold posB
 rw [List.take_add_one, List.map_append]
 simp [List.getD, h]
theorem posB_len (n : List Int) (k : Nat) : (posB (n.take k)).length ≤ n.length := by unfold posB; rw [List.length_map, List.length_take]; omega
theorem rfin_no (l : List TypD) (hs : smTs l) (h : ¬ errS l = 0) : FnSound Tryz.prog 81 [.val true (schC l)] [] { vals := [(false, [.d (.sl 1 (dBools []))]), (false, [.d (.v (.int .i64 (errS l)))])] } := by
 refine startW (tm := [(0, _)]) Tryz.func81 rfl Tryz.ntmps81 rfl rfl rfl rfl ?_
 repeat' (first
 |(with_reducible refine rgn 9 900 ?_ ?_); exact rfl
 |(with_reducible refine rgn 8 1000 ?_ ?_); exact rfl
 |(with_reducible refine K_ca 108 ?_); refine zC (rerr_fn l hs) ?_
 |refine wA ?_
 |(refine wC ?_ ?_ <;> intro hc)
 |refine wB ?_ ?_
 |(with_reducible refine JL.block ?_)
 |(with_reducible refine F_at ?_); refine eW (vs := [(_, _), (_, _)]) Tryz.results81 ?_; (focus (repeat' (first | exact oA | refine oB ?_ | refine oC ?_ ?_ | fail)))
 |exact oM
 |fail)
 all_goals first | with_reducible rfl | exact rfl | exact absurd ‹_› h | trace_state
theorem rfin_ok (l : List TypD) (hs : smTs l) (h : errS l = 0) : FnSound Tryz.prog 81 [.val true (schC l)] [] { vals := [(false, [.d (.sl 1 (dBools (posB (countsA countR l))))]), (false, [.d (.v (.int .i64 0))])] } := by
 have hv := rerr_fn l hs
 rw [h] at hv
 have hS : SchOk l := ⟨hs, errS_ok h⟩
 have hl := schema_few hS.ok
 have hc9 : (countsA countR l).length = l.length := iter_len cntR_ok l _
 refine startW (tm := [(0, _)]) Tryz.func81 rfl Tryz.ntmps81 rfl rfl rfl rfl ?_
 repeat' (first
 |(with_reducible refine rgn 9 900 ?_ ?_); exact rfl
 |(with_reducible refine rgn 8 1000 ?_ ?_); exact rfl
 |(with_reducible refine K_ca 108 ?_); refine zC (hv) ?_
 |(with_reducible refine K_ca 109 ?_); refine zC (rcounts_fn l hS) ?_
 |(with_reducible refine blk_at (id := 0) ?_); (try (refine JL.zeroW 6 _ 4 1 rfl rfl ?_)); (refine JL.rekW 6 (1096, 751) rfl rfl rfl rfl ?_); ((with_reducible refine JL.loopW 0 799 (fun (k : Nat) tm => (7, .one false [.d (.v (.int .i64 ((k : Int))))]) :: (6, .one false [.own (1096, 751)]) :: tm) (fun (k : Nat) bo => ((1096, 751), some (.sl 4 1 ((dBools (posB ((countsA countR l).take k)))))) :: bo) (fun (k : Nat) => k ≤ (countsA countR l).length) (fun (k : Nat) => (countsA countR l).length - k) (0) ?_ (fun k hk => have hpl := posB_len (countsA countR l) k; ?_) ?_); (focus (apply SubW [((1096, 751), _)] rfl ?_ ?_ rfl ?_; (repeat' (first | exact kA | refine kB ?_ | refine kC ?_ ?_ | exact kD | fail)))))
 |((with_reducible refine round_next (i := k) (k + 1) ?_ ?_ ?_); (focus (apply SubW [((1096, 751), _)] rfl ?_ ?_ rfl ?_; (repeat' (first | exact kA | refine kB ?_ | refine kC ?_ ?_ | exact kD | fail)))))
 |refine wA ?_
 |(refine wC ?_ ?_ <;> intro hc)
 |refine wB ?_ ?_
 |(with_reducible refine JL.block ?_)
 |(with_reducible refine F_at ?_); refine eW (vs := [(_, _), (_, _)]) Tryz.results81 ?_; (focus (repeat' (first | exact oA | refine oB ?_ | refine oC ?_ ?_ | fail)))
 |exact oM
 |fail)
 all_goals first
  | with_reducible rfl
  | omega
  | (rw [posB_next (by omega)]; done)
  | (rw [List.take_of_length_le (by omega)]; done)
  | exact rfl
  | trace_state
theorem sound_no {l : List TypD} (h : ¬ errS l = 0) : errS l = soundErr l := by
 unfold errS at h ⊢
 unfold soundErr
 by_cases e : schemaErr l = 0
 ·rw [if_pos e] at h ⊢
  rw [if_neg (not_not_intro e), if_pos h]
  unfold defErr at h ⊢
  split
  ·rename_i g; rw [if_pos g] at h; exact absurd rfl h
  ·rfl
 ·rw [if_neg e, if_pos e]
theorem errS_def {l : List TypD} (h : errS l = 0) : schemaErr l = 0 ∧ defErr l = 0 := by
 have h1 := errS_ok h
 unfold errS at h
 rw [if_pos h1] at h
 exact ⟨h1, h⟩
theorem sound_10 {l : List TypD} (h : errS l = 0) {k : Nat} (hk : k < (posB (countsA countR l)).length) (hc : (posB (countsA countR l)).getD k false = false) : 10 = soundErr l := by
 obtain ⟨h1, h2⟩ := errS_def h
 have h3 : soundB (countsA countR l) = false := by
  unfold soundB
  refine all_no (d := 0) (j := k) (by unfold posB at hk; rwa [List.length_map] at hk) ?_
  unfold posB at hk hc
  rw [List.length_map] at hk
  simpa [List.getD, hk] using hc
 unfold soundErr
 rw [if_neg (not_not_intro h1), if_neg (not_not_intro h2), h3]; rfl
theorem sound_0 {l : List TypD} (h : errS l = 0) (hc : ∀ k, k < (posB (countsA countR l)).length → (posB (countsA countR l)).getD k false = true) : 0 = soundErr l := by
 obtain ⟨h1, h2⟩ := errS_def h
 have h3 : soundB (countsA countR l) = true := by
  unfold soundB
  refine all_yes (d := 0) fun j hj => ?_
  have := hc j (by unfold posB; rwa [List.length_map])
  unfold posB at this
  simpa [List.getD, hj] using this
 unfold soundErr
 rw [if_neg (not_not_intro h1), if_neg (not_not_intro h2), h3]; rfl
theorem rsound_no (l : List TypD) (hs : smTs l) (h : ¬ errS l = 0) : FnSound Tryz.prog 63 [.val true (schC l)] [] { vals := [(false, [.d (.v (.int .i64 (soundErr l)))])] } := by
 rw [← sound_no h]
 refine startW (tm := [(0, _)]) Tryz.func63 rfl Tryz.ntmps63 rfl rfl rfl rfl ?_
 repeat' (first
 |(with_reducible refine rgn 7 700 ?_ ?_); exact rfl
 |(with_reducible refine rgn 8 800 ?_ ?_); exact rfl
 |(with_reducible refine rgn 6 900 ?_ ?_); exact rfl
 |(with_reducible refine K_ca 81 ?_); refine zC (rfin_no l hs h) ?_
 |refine wA ?_
 |(refine wC ?_ ?_ <;> intro hc)
 |refine wB ?_ ?_
 |(with_reducible refine JL.block ?_)
 |(with_reducible refine F_at ?_); refine eW (vs := [(_, _)]) Tryz.results63 ?_; (focus (repeat' (first | exact oA | refine oB ?_ | refine oC ?_ ?_ | fail)))
 |exact oM
 |fail)
 all_goals first | with_reducible rfl | exact absurd ‹_› h | trace_state
theorem rsound_ok (l : List TypD) (hs : smTs l) (h : errS l = 0) : FnSound Tryz.prog 63 [.val true (schC l)] [] { vals := [(false, [.d (.v (.int .i64 (soundErr l)))])] } := by
 have hl := schema_few (errS_ok h)
 have hc9 : (posB (countsA countR l)).length = l.length := by unfold posB; rw [List.length_map]; exact iter_len cntR_ok l _
 refine startW (tm := [(0, _)]) Tryz.func63 rfl Tryz.ntmps63 rfl rfl rfl rfl ?_
 repeat' (first
 |(with_reducible refine rgn 7 700 ?_ ?_); exact rfl
 |(with_reducible refine rgn 8 800 ?_ ?_); exact rfl
 |(with_reducible refine rgn 6 900 ?_ ?_); exact rfl
 |(with_reducible refine K_ca 81 ?_); refine zC (rfin_ok l hs h) ?_
 |(with_reducible refine blk_at (id := 0) ?_); ((with_reducible refine JL.loopW 0 599 (fun (k : Nat) tm => (5, .one false [.d (.v (.int .i64 ((k : Int))))]) :: tm) (fun (k : Nat) bo => bo) (fun (k : Nat) => k ≤ (posB (countsA countR l)).length ∧ ∀ j, j < k → (posB (countsA countR l)).getD j false = true) (fun (k : Nat) => (posB (countsA countR l)).length - k) (0) ?_ (fun k hk => ?_) ?_); (focus (apply SubW [] rfl ?_ ?_ rfl ?_; (repeat' (first | exact kA | refine kB ?_ | refine kC ?_ ?_ | exact kD | fail)))))
 |((with_reducible refine round_next (i := k) (k + 1) ?_ ?_ ?_); (focus (apply SubW [] rfl ?_ ?_ rfl ?_; (repeat' (first | exact kA | refine kB ?_ | refine kC ?_ ?_ | exact kD | fail)))))
 |refine wA ?_
 |(refine wC ?_ ?_ <;> intro hc)
 |refine wB ?_ ?_
 |(with_reducible refine JL.block ?_)
 |(with_reducible refine F_at ?_); refine eW (vs := [(_, _)]) Tryz.results63 ?_; (focus (repeat' (first | exact oA | refine oB ?_ | refine oC ?_ ?_ | fail)))
 |exact oM
 |fail)
 all_goals first
  | with_reducible rfl
  | omega
  | exact ⟨Nat.zero_le _, fun j hj => absurd hj (Nat.not_lt_zero j)⟩
  | exact ⟨by omega, lt_next hk.2 (nf hc)⟩
  | exact sound_10 h (k := k) (by omega) (nt hc)
  | exact sound_0 h (fun j hj => hk.2 j (by omega))
  | trace_state
theorem rsound_fn (l : List TypD) (hs : smTs l) : FnSound Tryz.prog 63 [.val true (schC l)] [] { vals := [(false, [.d (.v (.int .i64 (soundErr l)))])] } := by
 by_cases h : errS l = 0
 ·exact rsound_ok l hs h
 ·exact rsound_no l hs h
end Go.Proofs.YtjpdemikmdfonaaGreatDoor

namespace Go.Proofs.YtjpdemikmdfonaaGreatDoor
open Go Go.RowKit
set_option maxRecDepth 100000
set_option maxHeartbeats 8000000
set_option linter.unusedSimpArgs false
set_option linter.unusedVariables false
theorem rexists_fn (l : List TypD) (t : Int) : FnSound Tryz.prog 82 [.val true (schC l), .val false [.d (.v (.int .i64 t))]] [] { vals := [(false, [.d (.v (.bool (!outT l.length t)))])] } := by
 refine startW (tm := [(0, _), (1, _)]) Tryz.func82 rfl Tryz.ntmps82 rfl rfl rfl rfl ?_
 repeat' (first
 |refine wA ?_
 |(refine wC ?_ ?_ <;> intro hc)
 |refine wB ?_ ?_
 |(with_reducible refine JL.block ?_)
 |(with_reducible refine F_at ?_); refine eW (vs := [(_, _)]) Tryz.results82 ?_; (focus (repeat' (first | exact oA | refine oB ?_ | refine oC ?_ ?_ | fail)))
 |exact oM
 |fail)
 all_goals first
  | rfl
  | (unfold outT; rw [← decide_not]; exact decide_eq_decide.2 (by omega))
  | (unfold outT; rw [decide_eq_true (by omega)]; rfl)
  | trace_state
theorem nnf {b : Bool} (h : (!!b) = false) : b = false := by cases b; rfl; cases h
theorem nnt {b : Bool} (h : (!!b) = true) : b = true := by cases b; cases h; rfl
theorem rcalls_fn (v : VerD) (hl : v.calls.length ≤ 5900000000000 ∧ v.types.length ≤ 5900000000000) : FnSound Tryz.prog 64 [.val true (verC v)] [] { vals := [(false, [.d (.v (.int .i64 (firstE (callErr v.types.length v.calls) v.calls.length)))])] } := by
 refine startW (tm := [(0, _)]) Tryz.func64 rfl Tryz.ntmps64 rfl rfl rfl rfl ?_
 repeat' (first
 |(with_reducible refine rgn 4 400 ?_ ?_); exact rfl
 |(with_reducible refine rgn 5 500 ?_ ?_); exact rfl
 |(with_reducible refine rgn 6 600 ?_ ?_); exact rfl
 |(with_reducible refine rgn 7 700 ?_ ?_); exact rfl
 |(with_reducible refine rgn 8 800 ?_ ?_); exact rfl
 |(with_reducible refine rgn 10 900 ?_ ?_); exact rfl
 |(with_reducible refine rgn 11 1000 ?_ ?_); exact rfl
 |(with_reducible refine rgn 9 1100 ?_ ?_); exact rfl
 |(with_reducible refine rgn 12 1200 ?_ ?_); exact rfl
 |(with_reducible refine rgn 13 1300 ?_ ?_); exact rfl
 |(with_reducible refine rgn 3 1400 ?_ ?_); exact rfl
 |(with_reducible refine K_ca 20 ?_); refine zC (rname_fn _) ?_
 |(with_reducible refine K_ca 82 ?_); refine zC (rexists_fn _ _) ?_
 |(with_reducible refine blk_at (id := 0) ?_); ((with_reducible refine JL.loopW 0 299 (fun (i : Nat) tm => (3, .one false [.d (.v (.int .i64 ((i : Int))))]) :: tm) (fun (i : Nat) bo => bo) (fun (i : Nat) => i ≤ v.calls.length ∧ ∀ j, j < i → callErr v.types.length v.calls j = 0) (fun (i : Nat) => v.calls.length - i) (0) ?_ (fun i hi => ?_) ?_); (focus (apply SubW [] rfl ?_ ?_ rfl ?_; (repeat' (first | exact kA | refine kB ?_ | refine kC ?_ ?_ | exact kD | fail)))))
 |((with_reducible refine round_next (i := i) (i + 1) ?_ ?_ ?_); (focus (apply SubW [] rfl ?_ ?_ rfl ?_; (repeat' (first | exact kA | refine kB ?_ | refine kC ?_ ?_ | exact kD | fail)))))
 |(with_reducible refine blk_at (id := 2) ?_); ((with_reducible refine JL.loopW 2 799 (fun (k : Nat) tm => (5, .one false [.d (.v (.int .i64 ((k : Int))))]) :: tm) (fun (k : Nat) bo => bo) (fun (k : Nat) => k ≤ i ∧ ∀ j, j < k → ¬ (v.calls.getD j nilCa).name = (v.calls.getD i nilCa).name) (fun (k : Nat) => i - k) (0) ?_ (fun k hk => ?_) ?_); (focus (apply SubW [] rfl ?_ ?_ rfl ?_; (repeat' (first | exact kA | refine kB ?_ | refine kC ?_ ?_ | exact kD | fail)))))
 |((with_reducible refine round_next (i := k) (k + 1) ?_ ?_ ?_); (focus (apply SubW [] rfl ?_ ?_ rfl ?_; (repeat' (first | exact kA | refine kB ?_ | refine kC ?_ ?_ | exact kD | fail)))))
 |refine wA ?_
 |(refine wC ?_ ?_ <;> intro hc)
 |refine wB ?_ ?_
 |(with_reducible refine JL.block ?_)
 |(with_reducible refine F_at ?_); refine eW (vs := [(_, _)]) Tryz.results64 ?_; (focus (repeat' (first | exact oA | refine oB ?_ | refine oC ?_ ?_ | fail)))
 |exact oM
 |fail)
 all_goals first
  | rfl
  | omega
  | exact ⟨Nat.zero_le _, fun j hj => absurd hj (Nat.not_lt_zero j)⟩
  | exact ⟨by omega, lt_next hk.2 hc⟩
  | exact (firstE_at (i := i) (by omega) hi.2 (call_1 (nt hc)) (by decide)).symm
  | exact (firstE_at (i := i) (by omega) hi.2 (call_5 (k := k) (nf (by assumption)) (by omega) hc) (by decide)).symm
  | (refine (firstE_at (i := i) (by omega) hi.2 ((call_go (nf (by assumption)) (fun j hj => hk.2 j (by omega))).trans (if_pos ?_)) (by decide)).symm; first | exact .inl (nnt hc) | exact .inr (nnt hc))
  | (refine ⟨by omega, lt_next hi.2 ((call_go (nf (by assumption)) (fun j hj => hk.2 j (by omega))).trans (if_neg ?_))⟩
     rintro (a | a)
     ·rw [nnf (b := outT _ (v.calls.getD i nilCa).req) (by assumption)] at a; cases a
     ·rw [nnf hc] at a; cases a)
  | exact (firstE_zero (fun j hj => hi.2 j (by omega))).symm
  | trace_state
theorem rtops_fn (v : VerD) (hl : v.tops.length ≤ 5900000000000 ∧ v.types.length ≤ 5900000000000) : FnSound Tryz.prog 66 [.val true (verC v)] [] { vals := [(false, [.d (.v (.int .i64 (firstE (topErr v.types.length v.tops) v.tops.length)))])] } := by
 refine startW (tm := [(0, _)]) Tryz.func66 rfl Tryz.ntmps66 rfl rfl rfl rfl ?_
 repeat' (first
 |(with_reducible refine rgn 4 400 ?_ ?_); exact rfl
 |(with_reducible refine rgn 5 500 ?_ ?_); exact rfl
 |(with_reducible refine rgn 6 600 ?_ ?_); exact rfl
 |(with_reducible refine rgn 7 700 ?_ ?_); exact rfl
 |(with_reducible refine rgn 8 800 ?_ ?_); exact rfl
 |(with_reducible refine rgn 10 900 ?_ ?_); exact rfl
 |(with_reducible refine rgn 11 1000 ?_ ?_); exact rfl
 |(with_reducible refine rgn 9 1100 ?_ ?_); exact rfl
 |(with_reducible refine rgn 12 1200 ?_ ?_); exact rfl
 |(with_reducible refine rgn 13 1300 ?_ ?_); exact rfl
 |(with_reducible refine rgn 3 1400 ?_ ?_); exact rfl
 |(with_reducible refine K_ca 20 ?_); refine zC (rname_fn _) ?_
 |(with_reducible refine K_ca 82 ?_); refine zC (rexists_fn _ _) ?_
 |(with_reducible refine blk_at (id := 0) ?_); ((with_reducible refine JL.loopW 0 299 (fun (i : Nat) tm => (3, .one false [.d (.v (.int .i64 ((i : Int))))]) :: tm) (fun (i : Nat) bo => bo) (fun (i : Nat) => i ≤ v.tops.length ∧ ∀ j, j < i → topErr v.types.length v.tops j = 0) (fun (i : Nat) => v.tops.length - i) (0) ?_ (fun i hi => ?_) ?_); (focus (apply SubW [] rfl ?_ ?_ rfl ?_; (repeat' (first | exact kA | refine kB ?_ | refine kC ?_ ?_ | exact kD | fail)))))
 |((with_reducible refine round_next (i := i) (i + 1) ?_ ?_ ?_); (focus (apply SubW [] rfl ?_ ?_ rfl ?_; (repeat' (first | exact kA | refine kB ?_ | refine kC ?_ ?_ | exact kD | fail)))))
 |(with_reducible refine blk_at (id := 2) ?_); ((with_reducible refine JL.loopW 2 799 (fun (k : Nat) tm => (5, .one false [.d (.v (.int .i64 ((k : Int))))]) :: tm) (fun (k : Nat) bo => bo) (fun (k : Nat) => k ≤ i ∧ ∀ j, j < k → ¬ (v.tops.getD j nilTo).name = (v.tops.getD i nilTo).name) (fun (k : Nat) => i - k) (0) ?_ (fun k hk => ?_) ?_); (focus (apply SubW [] rfl ?_ ?_ rfl ?_; (repeat' (first | exact kA | refine kB ?_ | refine kC ?_ ?_ | exact kD | fail)))))
 |((with_reducible refine round_next (i := k) (k + 1) ?_ ?_ ?_); (focus (apply SubW [] rfl ?_ ?_ rfl ?_; (repeat' (first | exact kA | refine kB ?_ | refine kC ?_ ?_ | exact kD | fail)))))
 |refine wA ?_
 |(refine wC ?_ ?_ <;> intro hc)
 |refine wB ?_ ?_
 |(with_reducible refine JL.block ?_)
 |(with_reducible refine F_at ?_); refine eW (vs := [(_, _)]) Tryz.results66 ?_; (focus (repeat' (first | exact oA | refine oB ?_ | refine oC ?_ ?_ | fail)))
 |exact oM
 |fail)
 all_goals first
  | with_reducible rfl
  | omega
  | exact ⟨Nat.zero_le _, fun j hj => absurd hj (Nat.not_lt_zero j)⟩
  | exact ⟨by omega, lt_next hk.2 hc⟩
  | exact (firstE_at (i := i) (by omega) hi.2 (top_1 (nt hc)) (by decide)).symm
  | exact (firstE_at (i := i) (by omega) hi.2 (top_5 (k := k) (nf (by assumption)) (by omega) hc) (by decide)).symm
  | exact (firstE_at (i := i) (by omega) hi.2 ((top_go (nf (by assumption)) (fun j hj => hk.2 j (by omega))).trans (if_pos (nnt hc))) (by decide)).symm
  | exact ⟨by omega, lt_next hi.2 ((top_go (nf (by assumption)) (fun j hj => hk.2 j (by omega))).trans (if_neg (by rw [nnf hc]; decide)))⟩
  | exact (firstE_zero (fun j hj => hi.2 j (by omega))).symm
  | trace_state
def smS (x : SesD) : Prop := x.msgs.length ≤ 5900000000000 ∧ x.auto.edges.length ≤ 5900000000000
theorem rsess_fn (v : VerD) (hs : smTs v.types) (h : schemaErr v.types = 0) (hl : v.sess.length ≤ 5900000000000) (hx : ∀ i, i < v.sess.length → smS (v.sess.getD i nilSe)) : FnSound Tryz.prog 65 [.val true (verC v)] [] { vals := [(false, [.d (.v (.int .i64 (firstE (sessErr v.types.length v.sess) v.sess.length)))])] } := by
 refine startW (tm := [(0, _)]) Tryz.func65 rfl Tryz.ntmps65 rfl rfl rfl rfl ?_
 repeat' (first
 |(with_reducible refine rgn 4 400 ?_ ?_); exact rfl
 |(with_reducible refine rgn 5 500 ?_ ?_); exact rfl
 |(with_reducible refine rgn 7 600 ?_ ?_); exact rfl
 |(with_reducible refine rgn 8 700 ?_ ?_); exact rfl
 |(with_reducible refine rgn 6 800 ?_ ?_); exact rfl
 |(with_reducible refine rgn 9 900 ?_ ?_); exact rfl
 |(with_reducible refine rgn 10 1000 ?_ ?_); exact rfl
 |(with_reducible refine rgn 11 1100 ?_ ?_); exact rfl
 |(with_reducible refine rgn 3 1200 ?_ ?_); exact rfl
 |(with_reducible refine K_ca 83 ?_); refine zC (rses_fn v.types (v.sess.getD i nilSe) hs h (hx i (by omega))) ?_
 |(with_reducible refine blk_at (id := 0) ?_); ((with_reducible refine JL.loopW 0 299 (fun (i : Nat) tm => (3, .one false [.d (.v (.int .i64 ((i : Int))))]) :: tm) (fun (i : Nat) bo => bo) (fun (i : Nat) => i ≤ v.sess.length ∧ ∀ j, j < i → sessErr v.types.length v.sess j = 0) (fun (i : Nat) => v.sess.length - i) (0) ?_ (fun i hi => ?_) ?_); (focus (apply SubW [] rfl ?_ ?_ rfl ?_; (repeat' (first | exact kA | refine kB ?_ | refine kC ?_ ?_ | exact kD | fail)))))
 |((with_reducible refine round_next (i := i) (i + 1) ?_ ?_ ?_); (focus (apply SubW [] rfl ?_ ?_ rfl ?_; (repeat' (first | exact kA | refine kB ?_ | refine kC ?_ ?_ | exact kD | fail)))))
 |(with_reducible refine blk_at (id := 2) ?_); ((with_reducible refine JL.loopW 2 499 (fun (k : Nat) tm => (4, .one false [.d (.v (.int .i64 ((k : Int))))]) :: tm) (fun (k : Nat) bo => bo) (fun (k : Nat) => k ≤ i ∧ ∀ j, j < k → ¬ (v.sess.getD j nilSe).name = (v.sess.getD i nilSe).name) (fun (k : Nat) => i - k) (0) ?_ (fun k hk => ?_) ?_); (focus (apply SubW [] rfl ?_ ?_ rfl ?_; (repeat' (first | exact kA | refine kB ?_ | refine kC ?_ ?_ | exact kD | fail)))))
 |((with_reducible refine round_next (i := k) (k + 1) ?_ ?_ ?_); (focus (apply SubW [] rfl ?_ ?_ rfl ?_; (repeat' (first | exact kA | refine kB ?_ | refine kC ?_ ?_ | exact kD | fail)))))
 |refine wA ?_
 |(refine wC ?_ ?_ <;> intro hc)
 |refine wB ?_ ?_
 |(with_reducible refine JL.block ?_)
 |(with_reducible refine F_at ?_); refine eW (vs := [(_, _)]) Tryz.results65 ?_; (focus (repeat' (first | exact oA | refine oB ?_ | refine oC ?_ ?_ | fail)))
 |exact oM
 |fail)
 all_goals first
  | with_reducible rfl
  | omega
  | exact ⟨Nat.zero_le _, fun j hj => absurd hj (Nat.not_lt_zero j)⟩
  | exact ⟨by omega, lt_next hk.2 hc⟩
  | exact (firstE_at (i := i) (by omega) hi.2 (sess_5 (k := k) (by omega) hc) (by decide)).symm
  | exact (firstE_at (i := i) (by omega) hi.2 (sess_go (fun j hj => hk.2 j (by omega))) hc).symm
  | exact ⟨by omega, lt_next hi.2 ((sess_go (fun j hj => hk.2 j (by omega))).trans (by omega))⟩
  | exact (firstE_zero (fun j hj => hi.2 j (by omega))).symm
  | trace_state
end Go.Proofs.YtjpdemikmdfonaaGreatDoor

namespace Go.Proofs.YtjpdemikmdfonaaGreatDoor
open Go Go.RowKit
set_option maxRecDepth 100000
set_option maxHeartbeats 8000000
set_option linter.unusedSimpArgs false
set_option linter.unusedVariables false
structure SmV (v : VerD) : Prop where
 types : smTs v.types
 calls : v.calls.length ≤ 5900000000000
 tops : v.tops.length ≤ 5900000000000
 sess : v.sess.length ≤ 5900000000000
 each : ∀ i, i < v.sess.length → smS (v.sess.getD i nilSe)
theorem sound_sch {l : List TypD} (h : soundErr l = 0) : schemaErr l = 0 := by
 unfold soundErr at h
 split at h
 ·exact h
 ·rename_i g; omega
section
variable {v : VerD}
theorem ver_3 (h : (8 : Int) < v.calls.length ∨ (8 : Int) < v.sess.length ∨ (8 : Int) < v.tops.length) : 3 = verErr v := by
 unfold verErr; rw [if_pos (by omega)]
def verGo (v : VerD) : Prop := ¬ (8 : Int) < v.calls.length ∧ ¬ (8 : Int) < v.sess.length ∧ ¬ (8 : Int) < v.tops.length
theorem ver_1 (g : verGo v) (h : isNameP v.name = false) : 1 = verErr v := by
 have g' := g; unfold verGo at g'
 unfold verErr; rw [if_neg (by omega), if_pos h]
theorem ver_s (g : verGo v) (h : isNameP v.name = true) (hs : ¬ soundErr v.types = 0) : soundErr v.types = verErr v := by
 have g' := g; unfold verGo at g'
 unfold verErr; rw [if_neg (by omega), if_neg (by rw [h]; decide), if_pos hs]
theorem ver_c (g : verGo v) (h : isNameP v.name = true) (hs : soundErr v.types = 0) (hc : ¬ firstE (callErr v.types.length v.calls) v.calls.length = 0) : firstE (callErr v.types.length v.calls) v.calls.length = verErr v := by
 have g' := g; unfold verGo at g'
 unfold verErr; rw [if_neg (by omega), if_neg (by rw [h]; decide), if_neg (not_not_intro hs), if_pos hc]
theorem ver_x (g : verGo v) (h : isNameP v.name = true) (hs : soundErr v.types = 0) (hc : firstE (callErr v.types.length v.calls) v.calls.length = 0) (hx : ¬ firstE (sessErr v.types.length v.sess) v.sess.length = 0) : firstE (sessErr v.types.length v.sess) v.sess.length = verErr v := by
 have g' := g; unfold verGo at g'
 unfold verErr; rw [if_neg (by omega), if_neg (by rw [h]; decide), if_neg (not_not_intro hs), if_neg (not_not_intro hc), if_pos hx]
theorem ver_t (g : verGo v) (h : isNameP v.name = true) (hs : soundErr v.types = 0) (hc : firstE (callErr v.types.length v.calls) v.calls.length = 0) (hx : firstE (sessErr v.types.length v.sess) v.sess.length = 0) : firstE (topErr v.types.length v.tops) v.tops.length = verErr v := by
 have g' := g; unfold verGo at g'
 unfold verErr; rw [if_neg (by omega), if_neg (by rw [h]; decide), if_neg (not_not_intro hs), if_neg (not_not_intro hc), if_neg (not_not_intro hx)]
end
theorem rver_fn (v : VerD) (hv : SmV v) : FnSound Tryz.prog 47 [.val true (verC v)] [] { vals := [(false, [.d (.v (.int .i64 (verErr v)))])] } := by
 have hl := hv.types.1
 refine startW (tm := [(0, _)]) Tryz.func47 rfl Tryz.ntmps47 rfl rfl rfl rfl ?_
 repeat' (first
 |(with_reducible refine K_ca 20 ?_); refine zC (rname_fn _) ?_
 |(with_reducible refine K_ca 63 ?_); refine zC (rsound_fn v.types hv.types) ?_
 |(with_reducible refine K_ca 64 ?_); refine zC (rcalls_fn v ⟨hv.calls, hl⟩) ?_
 |(with_reducible refine K_ca 65 ?_); refine zC (rsess_fn v hv.types (sound_sch (by assumption)) hv.sess hv.each) ?_
 |(with_reducible refine K_ca 66 ?_); refine zC (rtops_fn v ⟨hv.tops, hl⟩) ?_
 |refine wA ?_
 |(refine wC ?_ ?_ <;> intro hc)
 |refine wB ?_ ?_
 |(with_reducible refine JL.block ?_)
 |(with_reducible refine F_at ?_); refine eW (vs := [(_, _)]) Tryz.results47 ?_; (focus (repeat' (first | exact oA | refine oB ?_ | refine oC ?_ ?_ | fail)))
 |exact oM
 |fail)
 all_goals first
  | with_reducible rfl
  | exact ver_3 (by omega)
  | exact ver_1 ⟨by omega, by omega, by omega⟩ (nt hc)
  | exact ver_s ⟨by omega, by omega, by omega⟩ (nf (by assumption)) hc
  | exact ver_c ⟨by omega, by omega, by omega⟩ (nf (by assumption)) (by assumption) hc
  | exact ver_x ⟨by omega, by omega, by omega⟩ (nf (by assumption)) (by assumption) (by assumption) hc
  | exact ver_t ⟨by omega, by omega, by omega⟩ (nf (by assumption)) (by assumption) (by assumption) hc
  | trace_state
def fewS (x : SesD) : Bool := decide (x.msgs.length ≤ 20 ∧ x.auto.edges.length ≤ 110 ∧ x.name.size ≤ 100)
def fewV (b7 : Bool) (v : VerD) : Bool := decide (v.calls.length ≤ 10 ∧ v.sess.length ≤ 10 ∧ v.tops.length ≤ 10 ∧ v.name.size ≤ 100) && b7 && v.sess.all fewS
theorem rfew32 (v : VerD) (b7 : Bool) (h7 : FnSound Tryz.prog 38 [.val true (schC v.types)] [] { vals := [(false, [.d (.v (.bool b7))])] }) : FnSound Tryz.prog 14 [.val true (verC v)] [] { vals := [(false, [.d (.v (.bool (fewV b7 v)))])] } := by
 refine startW (tm := [(0, _)]) Tryz.func14 rfl Tryz.ntmps14 rfl rfl rfl rfl ?_
 repeat' (first
 |(with_reducible refine rgn 6 600 ?_ ?_); exact rfl
 |(with_reducible refine rgn 7 700 ?_ ?_); exact rfl
 |(with_reducible refine rgn 5 800 ?_ ?_); exact rfl
 |(with_reducible refine K_ca 38 ?_); refine zC (h7) ?_
 |(with_reducible refine K_ca 39 ?_); refine zC (rfew31 (v.sess.getD i nilSe)) ?_
 |(with_reducible refine blk_at (id := 0) ?_); ((with_reducible refine JL.loopW 0 499 (fun (i : Nat) tm => (3, .one false [.d (.v (.int .i64 ((i : Int))))]) :: tm) (fun (i : Nat) bo => bo) (fun (i : Nat) => i ≤ v.sess.length ∧ ∀ j, j < i → fewS (v.sess.getD j nilSe) = true) (fun (i : Nat) => v.sess.length - i) (0) ?_ (fun i hi => ?_) ?_); (focus (apply SubW [] rfl ?_ ?_ rfl ?_; (repeat' (first | exact kA | refine kB ?_ | refine kC ?_ ?_ | exact kD | fail)))))
 |((with_reducible refine round_next (i := i) (i + 1) ?_ ?_ ?_); (focus (apply SubW [] rfl ?_ ?_ rfl ?_; (repeat' (first | exact kA | refine kB ?_ | refine kC ?_ ?_ | exact kD | fail)))))
 |refine wA ?_
 |(refine wC ?_ ?_ <;> intro hc)
 |refine wB ?_ ?_
 |(with_reducible refine JL.block ?_)
 |(with_reducible refine F_at ?_); refine eW (vs := [(_, _)]) Tryz.results14 ?_; (focus (repeat' (first | exact oA | refine oB ?_ | refine oC ?_ ?_ | fail)))
 |exact oM
 |fail)
 all_goals first
  | with_reducible rfl
  | omega
  | exact ⟨Nat.zero_le _, fun j hj => absurd hj (Nat.not_lt_zero j)⟩
  | (unfold fewV; rw [decide_eq_false (by omega)]; rfl)
  | (unfold fewV; rw [nt (b := b7) (by assumption)]; simp; done)
  | exact ⟨by omega, lt_next hi.2 (decide_eq_true (by assumption))⟩
  | (unfold fewV; rw [all_no (j := i) (d := nilSe) (by omega) (decide_eq_false (by assumption))]; simp; done)
  | (unfold fewV; rw [decide_eq_true (by omega), nf (b := b7) (by assumption), all_yes (d := nilSe) (fun j hj => hi.2 j (by omega))]; rfl)
  | trace_state
theorem few32_ex (v : VerD) (hs : smTs v.types) : ∃ b : Bool, FnSound Tryz.prog 14 [.val true (verC v)] [] { vals := [(false, [.d (.v (.bool b))])] } := by
 obtain ⟨b7, h7⟩ := few7_ex v.types hs
 exact ⟨_, rfew32 v b7 h7⟩
end Go.Proofs.YtjpdemikmdfonaaGreatDoor

