/- Rules of runs and contracts of functions, for the claims of one seat. -/
import Derived.Test.YtjpdemikmdfonaaGreatDoorFA13
import Derived.Test.YtjpdemikmdfonaaGreatDoorFA15
import Derived.Test.YtjpdemikmdfonaaGreatDoorFA19
import Derived.Test.YtjpdemikmdfonaaGreatDoorFA24
import Derived.Test.YtjpdemikmdfonaaGreatDoorFA26
import Derived.Test.YtjpdemikmdfonaaGreatDoorFA36
namespace Go.Proofs.YtjpdemikmdfonaaGreatDoor
open Go Go.RowKit
set_option maxRecDepth 100000
set_option maxHeartbeats 8000000
set_option linter.unusedSimpArgs false
set_option linter.unusedVariables false
def nmsF (f : Nat → ByteArray) : Nat → List ByteArray
 | 0 => []
 | i + 1 => addS (nmsF f i) (f i)
theorem nmsF_has (f : Nat → ByteArray) (x : ByteArray) : ∀ i, hasS (nmsF f i) x = (List.range i).any fun k => decide (f k = x)
 | 0 => rfl
 | i + 1 => by
  show hasS (addS (nmsF f i) (f i)) x = _
  rw [hasS_add, nmsF_has f x i, List.range_succ, List.any_append]
  simp
theorem nmsF_dup (f : Nat → ByteArray) (i : Nat) : hasS (nmsF f i) (f i) = dupF f i := nmsF_has f (f i) i
theorem pwithin_fn (k n : Int) : FnSound Tryz.prog 26 [.val false [.d (.v (.int .i64 k))], .val false [.d (.v (.int .i64 n))]] [] { vals := [(false, [.d (.v (.bool (decide (0 ≤ k ∧ k < n))))])] } := by
 refine startW (tm := [(0, _), (1, _)]) Tryz.func26 rfl Tryz.ntmps26 rfl rfl rfl rfl ?_
 repeat' (first
 |refine wA ?_
 |(refine wC ?_ ?_ <;> intro hc)
 |refine wB ?_ ?_
 |(with_reducible refine JL.block ?_)
 |(with_reducible refine F_at ?_); refine eW (vs := [(_, _)]) Tryz.results26 ?_; (focus (repeat' (first | exact oA | refine oB ?_ | refine oC ?_ ?_ | fail)))
 |exact oM
 |fail)
 all_goals first | with_reducible rfl | exact (decide_eq_false (by omega)).symm | exact decide_eq_decide.2 (by omega) | trace_state
theorem pkind_fn (k : Int) (a : Bool) : FnSound Tryz.prog 43 [.val false [.d (.v (.int .i64 k))], .val false [.d (.v (.bool a))]] [] { vals := [(false, [.d (.v (.bool (kindB k a)))])] } := by
 refine startW (tm := [(0, _), (1, _)]) Tryz.func43 rfl Tryz.ntmps43 rfl rfl rfl rfl ?_
 repeat' (first
 |refine wA ?_
 |(refine wC ?_ ?_ <;> intro hc)
 |refine wB ?_ ?_
 |(with_reducible refine JL.block ?_)
 |(with_reducible refine F_at ?_); refine eW (vs := [(_, _)]) Tryz.results43 ?_; (focus (repeat' (first | exact oA | refine oB ?_ | refine oC ?_ ?_ | fail)))
 |exact oM
 |fail)
 all_goals first | with_reducible rfl | (unfold kindB; cases a <;> simp_all <;> omega) | trace_state
theorem plink_fn (n : Nat) (t : LnkD) (hn : n ≤ 5900000000000) : FnSound Tryz.prog 17 [.val true (lnkC t), .val false [.d (.v (.int .i64 (n : Int)))]] [] { vals := [(false, [.d (.v (.int .i64 (lnkErr n t)))])] } := by
 refine startW (tm := [(0, _), (1, _)]) Tryz.func17 rfl Tryz.ntmps17 rfl rfl rfl rfl ?_
 repeat' (first
 |(with_reducible refine K_ca 43 ?_); refine zC (pkind_fn _ _) ?_
 |(with_reducible refine K_ca 15 ?_); refine zC (pname_fn _) ?_
 |(with_reducible refine K_ca 26 ?_); refine zC (pwithin_fn _ _) ?_
 |refine wA ?_
 |(refine wC ?_ ?_ <;> intro hc)
 |refine wB ?_ ?_
 |(with_reducible refine JL.block ?_)
 |(with_reducible refine F_at ?_); refine eW (vs := [(_, _)]) Tryz.results17 ?_; (focus (repeat' (first | exact oA | refine oB ?_ | refine oC ?_ ?_ | fail)))
 |exact oM
 |fail)
 all_goals first
  | with_reducible rfl
  | (refine lnk_1 (.inl (show kindB t.kind t.aware = false from decide_eq_false ?_)); exact hc)
  | exact lnk_1 (.inr (nt hc))
  | (have g : lnkGo t := ⟨(show kindB t.kind t.aware = true from decide_eq_true (by assumption)), nf (by assumption)⟩
     first
      | exact lnk_4 g (by omega)
      | exact lnk_7 g (by omega) (by omega)
      | exact lnk_0 g (by omega) (by omega))
  | trace_state
theorem psrv_fn (x : SrvD) (h : SmSrv x) : FnSound Tryz.prog 16 [.val true (srvC x)] [] { vals := [(false, [.d (.v (.int .i64 (srvErr x)))])] } := by
 have hl := h.len
 refine startW (tm := [(0, _)]) Tryz.func16 rfl Tryz.ntmps16 rfl rfl rfl rfl ?_
 repeat' (first
 |(with_reducible refine K_ca 42 ?_); refine zC (pver_fn (x.vers.getD i nilVe) (h.each i (by omega))) ?_
 |(with_reducible refine K_ca 26 ?_); refine zC (pwithin_fn _ _) ?_
 |(with_reducible refine W_at ?_); (first
 |(refine W.mapNew _ rfl m64 ?_)
 |(refine W.mapGet mp_sb rfl rfl rfl rfl ?_)
 |(refine W.mapPut mp_sb rfl rfl rfl rfl ?_))
 |(with_reducible refine blk_at (id := 0) ?_); ((with_reducible refine JL.loopW 0 799 (fun (i : Nat) tm => (19, .one false [.d (.v (.int .i64 ((i : Int))))]) :: tm) (fun (i : Nat) bo => ((0, 600), some (.mp (mEnts 0 (nmsF (fun k => (x.vers.getD k nilVe).name) i)).toArray (nmsF (fun k => (x.vers.getD k nilVe).name) i).length)) :: bo) (fun (i : Nat) => i ≤ x.vers.length ∧ ∀ j, j < i → sverE x.vers j = 0) (fun (i : Nat) => x.vers.length - i) (0) ?_ (fun i hi => ?_) ?_); (focus (apply SubW [] rfl ?_ ?_ rfl ?_; (repeat' (first | exact kA | refine kB ?_ | refine kC ?_ ?_ | exact kD | fail)))))
 |((with_reducible refine round_next (i := i) (i + 1) ?_ ?_ ?_); (focus (apply SubW [] rfl ?_ ?_ rfl ?_; (repeat' (first | exact kA | refine kB ?_ | refine kC ?_ ?_ | exact kD | fail)))))
 |refine wA ?_
 |(refine wC ?_ ?_ <;> intro hc)
 |refine wB ?_ ?_
 |(with_reducible refine JL.block ?_)
 |(with_reducible refine F_at ?_); refine eW (vs := [(_, _)]) Tryz.results16 ?_; (focus (repeat' (first | exact oA | refine oB ?_ | refine oC ?_ ?_ | fail)))
 |exact oM
 |fail)
 all_goals first
  | with_reducible rfl
  | omega
  | exact srv_10 (by assumption)
  | exact srv_3 (by assumption) (by assumption)
  | rfl
  | exact ⟨Nat.zero_le _, fun j hj => absurd hj (Nat.not_lt_zero j)⟩
  | exact srv_at (i := i) ⟨by omega, by omega⟩ (by omega) hi.2 (sver_e hc) hc
  | (refine srv_at (i := i) ⟨by omega, by omega⟩ (by omega) hi.2 (sver_d (by assumption) ((nmsF_dup (fun k => (x.vers.getD k nilVe).name) i).symm.trans ?_)) (by decide); assumption)
  | (refine ⟨by omega, lt_next hi.2 (sver_n (by assumption) ((nmsF_dup (fun k => (x.vers.getD k nilVe).name) i).symm.trans ?_))⟩; assumption)
  | exact srv_7 ⟨by omega, by omega⟩ (fun j hj => hi.2 j (by omega)) (by omega)
  | exact srv_0 ⟨by omega, by omega⟩ (fun j hj => hi.2 j (by omega)) (by omega)
  | trace_state
theorem plsame_fn (x y : LnkD) : FnSound Tryz.prog 19 [.val true (lnkC x), .val false [.rptr (lnkRow y) 0]] [] { vals := [(false, [.d (.v (.bool (sameL x y)))])] } := by
 refine startW (tm := [(0, _), (1, _)]) Tryz.func19 rfl Tryz.ntmps19 rfl rfl rfl rfl ?_
 repeat' (first
 |refine wA ?_
 |(refine wC ?_ ?_ <;> intro hc)
 |refine wB ?_ ?_
 |(with_reducible refine JL.block ?_)
 |(with_reducible refine F_at ?_); refine eW (vs := [(_, _)]) Tryz.results19 ?_; (focus (repeat' (first | exact oA | refine oB ?_ | refine oC ?_ ?_ | fail)))
 |exact oM
 |fail)
 all_goals first | with_reducible rfl | (unfold sameL; simp_all; done) | trace_state
theorem bo_lsame : BoI Tryz.prog 19 := ⟨by kernel_rfl⟩
def lnkI (l : List LnkD) (y : LnkD) : Int := match l.findIdx? (fun x => sameL x y) with
 | some k => (k : Int)
 | none => -1
theorem lnkI_some {l : List LnkD} {y : LnkD} {k : Nat} (hk : k < l.length) (h : ∀ i, i < k → sameL (l.getD i nilLk) y = false) (he : sameL (l.getD k nilLk) y = true) : (k : Int) = lnkI l y := by
 unfold lnkI
 have : l.findIdx? (fun x => sameL x y) = some k := by
  rw [List.findIdx?_eq_some_iff_getElem]
  refine ⟨hk, ?_, fun j hj => ?_⟩
  ·rw [List.getD_eq_getElem?_getD, List.getElem?_eq_getElem hk] at he
   exact he
  ·have := h j hj
   rw [List.getD_eq_getElem?_getD, List.getElem?_eq_getElem (by omega)] at this
   simpa using this
 rw [this]
theorem lnkI_none {l : List LnkD} {y : LnkD} (h : ∀ i, i < l.length → sameL (l.getD i nilLk) y = false) : -1 = lnkI l y := by
 unfold lnkI
 have : l.findIdx? (fun x => sameL x y) = none := by
  rw [List.findIdx?_eq_none_iff]
  intro x hx
  obtain ⟨i, hi, rfl⟩ := List.getElem_of_mem hx
  have := h i hi
  rw [List.getD_eq_getElem?_getD, List.getElem?_eq_getElem hi] at this
  exact this
 rw [this]
theorem lnkI_any {l : List LnkD} {y : LnkD} : decide (0 ≤ lnkI l y) = l.any fun x => sameL x y := by
 unfold lnkI
 cases e : l.findIdx? (fun x => sameL x y) with
 | none =>
  rw [List.findIdx?_eq_none_iff] at e
  rw [decide_eq_false (by simp)]
  exact (List.any_eq_false.2 fun x hx => by rw [e x hx]; decide).symm
 | some k =>
  obtain ⟨h1, h2, _⟩ := List.findIdx?_eq_some_iff_getElem.1 e
  rw [decide_eq_true (by simp)]
  exact (List.any_eq_true.2 ⟨_, List.getElem_mem h1, h2⟩).symm
theorem plnkI_fn (l : List LnkD) (y : LnkD) (hl : l.length ≤ 5900000000000) : FnSound Tryz.prog 44 [.val false [.d (.sl 6 (dLnks l))], .val false [.fn 19 [.rptr (lnkRow y) 0]]] [] { vals := [(false, [.d (.v (.int .i64 (lnkI l y)))])] } := by
 refine startW (tm := [(0, _), (1, _)]) Tryz.func44 rfl Tryz.ntmps44 rfl rfl rfl rfl ?_
 repeat' (first
 |(with_reducible refine W_at ?_); (first
 |(refine W.callC rfl bo_lsame rfl rfl rfl (plsame_fn (l.getD k nilLk) y) rfl rfl ?_))
 |(with_reducible refine blk_at (id := 0) ?_); ((with_reducible refine JL.loopW 0 299 (fun (k : Nat) tm => (8, .one false [.d (.v (.int .i64 ((k : Int))))]) :: tm) (fun (k : Nat) bo => bo) (fun (k : Nat) => k ≤ l.length ∧ ∀ i, i < k → sameL (l.getD i nilLk) y = false) (fun (k : Nat) => l.length - k) (0) ?_ (fun k hk => ?_) ?_); (focus (apply SubW [] rfl ?_ ?_ rfl ?_; (repeat' (first | exact kA | refine kB ?_ | refine kC ?_ ?_ | exact kD | fail)))))
 |((with_reducible refine round_next (i := k) (k + 1) ?_ ?_ ?_); (focus (apply SubW [] rfl ?_ ?_ rfl ?_; (repeat' (first | exact kA | refine kB ?_ | refine kC ?_ ?_ | exact kD | fail)))))
 |refine wA ?_
 |(refine wC ?_ ?_ <;> intro hc)
 |refine wB ?_ ?_
 |(with_reducible refine JL.block ?_)
 |(with_reducible refine F_at ?_); refine eW (vs := [(_, _)]) Tryz.results44 ?_; (focus (repeat' (first | exact oA | refine oB ?_ | refine oC ?_ ?_ | fail)))
 |exact oM
 |fail)
 all_goals first
  | with_reducible rfl
  | omega
  | exact ⟨Nat.zero_le _, fun i hi => absurd hi (Nat.not_lt_zero i)⟩
  | (refine ⟨by omega, lt_next hk.2 (decide_eq_false ?_)⟩; exact hc)
  | (refine lnkI_some (by omega) hk.2 (decide_eq_true ?_); exact hc)
  | exact lnkI_none (fun i hi => hk.2 i (by omega))
  | trace_state
theorem plnkC_fn (l : List LnkD) (y : LnkD) (hl : l.length ≤ 5900000000000) : FnSound Tryz.prog 18 [.val false [.d (.sl 6 (dLnks l))], .val false [.fn 19 [.rptr (lnkRow y) 0]]] [] { vals := [(false, [.d (.v (.bool (l.any fun x => sameL x y)))])] } := by
 refine startW (tm := [(0, _), (1, _)]) Tryz.func18 rfl Tryz.ntmps18 rfl rfl rfl rfl ?_
 repeat' (first
 |(with_reducible refine K_ca 44 ?_); refine zC (plnkI_fn l y hl) ?_
 |refine wA ?_
 |(refine wC ?_ ?_ <;> intro hc)
 |refine wB ?_ ?_
 |(with_reducible refine JL.block ?_)
 |(with_reducible refine F_at ?_); refine eW (vs := [(_, _)]) Tryz.results18 ?_; (focus (repeat' (first | exact oA | refine oB ?_ | refine oC ?_ ?_ | fail)))
 |exact oM
 |fail)
 all_goals first | with_reducible rfl | exact lnkI_any | trace_state
theorem any_dupL {l : List LnkD} {i : Nat} (hi : i ≤ l.length) : ((l.take i).any fun x => sameL x (l.getD i nilLk)) = dupL l i := by
 unfold dupL
 rw [Bool.eq_iff_iff, List.any_eq_true, List.any_eq_true]
 constructor
 ·rintro ⟨x, hx, h⟩
  obtain ⟨k, hk, rfl⟩ := List.getElem_of_mem hx
  rw [List.length_take] at hk
  refine ⟨k, List.mem_range.2 (by omega), ?_⟩
  rw [List.getElem_take] at h
  rw [List.getD_eq_getElem?_getD, List.getElem?_eq_getElem (by omega)]
  exact h
 ·rintro ⟨k, hk, h⟩
  have hk := List.mem_range.1 hk
  refine ⟨l.getD k nilLk, ?_, h⟩
  rw [List.getD_eq_getElem?_getD, List.getElem?_eq_getElem (by omega)]
  exact List.mem_take_iff_getElem.2 ⟨k, by omega, rfl⟩
theorem pfvalid_fn (s : List SrvD) (l : List LnkD) (h : SmF s l) : FnSound Tryz.prog 6 [.val true (fltC s l)] [] { vals := [(false, [.d (.v (.int .i64 (fltErr s l)))])] } := by
 have hs := h.srvs
 have hl := h.lnks
 have hlt := fun i => List.length_take (i := i) (l := l)
 refine startW (tm := [(0, _)]) Tryz.func6 rfl Tryz.ntmps6 rfl rfl rfl rfl ?_
 repeat' (first
 |(with_reducible refine rgL (fun g => g == 18) ?_ ?_); exact rfl
 |(with_reducible refine K_ca 15 ?_); refine zC (pname_fn _) ?_
 |(with_reducible refine K_ca 16 ?_); refine zC (psrv_fn (s.getD i nilSv) (h.each i (by omega))) ?_
 |(with_reducible refine K_ca 17 ?_); refine zC (plink_fn s.length (l.getD u nilLk) hs) ?_
 |(with_reducible refine K_ca 18 ?_); refine zC (plnkC_fn (l.take u) (l.getD u nilLk) (by have := hlt u; omega)) ?_
 |(with_reducible refine W_at ?_); (first
 |(refine W.mkfn rfl rfl ?_)
 |(refine W.mapNew _ rfl m64 ?_)
 |(refine W.mapGet mp_sb rfl rfl rfl rfl ?_)
 |(refine W.mapPut mp_sb rfl rfl rfl rfl ?_))
 |(with_reducible refine blk_at (id := 0) ?_); ((with_reducible refine JL.loopW 0 799 (fun (i : Nat) tm => (28, .one false [.d (.v (.int .i64 ((i : Int))))]) :: tm) (fun (i : Nat) bo => ((0, 600), some (.mp (mEnts 0 (nmsF (fun k => (s.getD k nilSv).name) i)).toArray (nmsF (fun k => (s.getD k nilSv).name) i).length)) :: bo) (fun (i : Nat) => i ≤ s.length ∧ ∀ j, j < i → fsrvE s j = 0) (fun (i : Nat) => s.length - i) (0) ?_ (fun i hi => ?_) ?_); (focus (apply SubW [] rfl ?_ ?_ rfl ?_; (repeat' (first | exact kA | refine kB ?_ | refine kC ?_ ?_ | exact kD | fail)))))
 |((with_reducible refine round_next (i := i) (i + 1) ?_ ?_ ?_); (focus (apply SubW [] rfl ?_ ?_ rfl ?_; (repeat' (first | exact kA | refine kB ?_ | refine kC ?_ ?_ | exact kD | fail)))))
 |(with_reducible refine blk_at (id := 2) ?_); ((with_reducible refine JL.loopW 2 1999 (fun (u : Nat) tm => (52, .one false [.d (.v (.int .i64 ((u : Int))))]) :: tm) (fun (u : Nat) bo => bo) (fun (u : Nat) => u ≤ l.length ∧ ∀ j, j < u → flnkE s.length l j = 0) (fun (u : Nat) => l.length - u) (0) ?_ (fun u hu => ?_) ?_); (focus (apply SubW [] rfl ?_ ?_ rfl ?_; (repeat' (first | exact kA | refine kB ?_ | refine kC ?_ ?_ | exact kD | fail)))))
 |((with_reducible refine round_next (i := u) (u + 1) ?_ ?_ ?_); (focus (apply SubW [] rfl ?_ ?_ rfl ?_; (repeat' (first | exact kA | refine kB ?_ | refine kC ?_ ?_ | exact kD | fail)))))
 |refine wA ?_
 |(refine wC ?_ ?_ <;> intro hc)
 |refine wB ?_ ?_
 |(with_reducible refine JL.block ?_)
 |(with_reducible refine F_at ?_); refine eW (vs := [(_, _)]) Tryz.results6 ?_; (focus (repeat' (first | exact oA | refine oB ?_ | refine oC ?_ ?_ | fail)))
 |exact oM
 |fail)
 all_goals first
  | with_reducible rfl
  | omega
  | exact flt_10 (by assumption)
  | exact flt_3 (by assumption) (by omega)
  | rfl
  | exact ⟨Nat.zero_le _, fun j hj => absurd hj (Nat.not_lt_zero j)⟩
  | exact flt_sAt (i := i) ⟨by omega, by omega, by omega⟩ (by omega) hi.2 (fs_1 (nt hc)) (by decide)
  | (refine flt_sAt (i := i) ⟨by omega, by omega, by omega⟩ (by omega) hi.2 (fs_d (nf (by assumption)) ((nmsF_dup (fun k => (s.getD k nilSv).name) i).symm.trans ?_)) (by decide); assumption)
  | (refine flt_sAt (i := i) ⟨by omega, by omega, by omega⟩ (by omega) hi.2 (fs_n (nf (by assumption)) ((nmsF_dup (fun k => (s.getD k nilSv).name) i).symm.trans ?_)) hc; assumption)
  | (refine ⟨by omega, lt_next hi.2 ((fs_n (nf (by assumption)) ((nmsF_dup (fun k => (s.getD k nilSv).name) i).symm.trans ?_)).trans hc)⟩; assumption)
  | exact flt_lAt (i := u) ⟨by omega, by omega, by omega⟩ (fun j hj => hi.2 j (by omega)) (by omega) hu.2 (fl_e hc) hc
  | exact flt_lAt (i := u) ⟨by omega, by omega, by omega⟩ (fun j hj => hi.2 j (by omega)) (by omega) hu.2 (fl_5 (by assumption) ((any_dupL (by omega)).symm.trans hc)) (by decide)
  | exact ⟨by omega, lt_next hu.2 (fl_0 (by assumption) ((any_dupL (by omega)).symm.trans hc))⟩
  | exact flt_0 ⟨by omega, by omega, by omega⟩ (fun j hj => hi.2 j (by omega)) (fun j hj => hu.2 j (by omega))
  | trace_state
end Go.Proofs.YtjpdemikmdfonaaGreatDoor

