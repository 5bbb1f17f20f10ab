/- Rules of runs and contracts of functions, for the claims of one seat. -/
import Derived.Test.YtjpdemikmdfonaaGreatDoorFA15
import Derived.Test.YtjpdemikmdfonaaGreatDoorFA19
import Derived.Test.YtjpdemikmdfonaaGreatDoorFA26
import Derived.Test.YtjpdemikmdfonaaGreatDoorFA27
namespace Go.Proofs.YtjpdemikmdfonaaGreatDoor
open Go Go.RowKit
set_option maxRecDepth 100000
set_option maxHeartbeats 8000000
set_option linter.unusedSimpArgs false
set_option linter.unusedVariables false
def sideE (e : EdgeD) : Int := if e.send = true then 1 else 0
theorem pside_fn (e : EdgeD) : FnSound Tryz.prog 205 [.val true (edgeC e)] [] { vals := [(false, [.d (.v (.int .i64 (sideE e)))])] } := by
 refine startW (tm := [(0, _)]) Tryz.func205 rfl Tryz.ntmps205 rfl rfl rfl rfl ?_
 repeat' (first
 |refine wA ?_
 |(refine wC ?_ ?_ <;> intro hc)
 |refine wB ?_ ?_
 |(with_reducible refine JL.block ?_)
 |(with_reducible refine F_at ?_); refine eW (vs := [(_, _)]) Tryz.results205 ?_; (focus (repeat' (first | exact oA | refine oB ?_ | refine oC ?_ ?_ | fail)))
 |exact oM
 |fail)
 all_goals first | with_reducible rfl | (unfold sideE; simp_all; done) | trace_state
theorem bo_side : BoI Tryz.prog 205 := ⟨by kernel_rfl⟩
def cmpI (a b : Int) : Int := if a < b then -1 else if b < a then 1 else 0
def cmpE (a b : EdgeD) : Int := orI [cmpI a.frm b.frm, cmpI (sideE a) (sideE b), cmpI a.label b.label]
theorem cmpE_lt (a b : EdgeD) : cmpE a b < 0 ↔ befE a b = true := by
 unfold cmpE befE cmpI sideE orI orI orI orI
 rw [decide_eq_true_eq]
 cases a.send <;> cases b.send <;> simp only [Bool.false_eq_true, if_true, if_false, reduceCtorEq, and_false, false_and, and_true, true_and, or_false, false_or, and_self] <;> (repeat' split) <;> omega
theorem cmp_no {a b : EdgeD} (h : 0 ≤ cmpE a b) : befE a b = false := by
 cases e : befE a b with
 | false => rfl
 | true => have := (cmpE_lt a b).2 e; omega
theorem cmp_yes {a b : EdgeD} (h : ¬ 0 ≤ cmpE a b) : befE a b = true := (cmpE_lt a b).1 (by omega)
theorem pcmpE_fn (a b : EdgeD) : FnSound Tryz.prog 147 [.val true (edgeC a), .val true (edgeC b)] [] { vals := [(false, [.d (.v (.int .i64 (cmpE a b)))])] } := by
 refine startW (tm := [(0, _), (1, _)]) Tryz.func147 rfl Tryz.ntmps147 rfl rfl rfl rfl ?_
 repeat' (first
 |(with_reducible refine rgL (fun g => g == 206) ?_ ?_); exact rfl
 |(with_reducible refine K_ca 207 ?_); refine zC (pcmp_i64 _ _) ?_
 |(with_reducible refine K_ca 206 ?_); (first
 |refine W.call0A rfl BoC.h (por_fn [_, _, _] (by simp)) rfl rfl rfl ?_
 |refine W.call1A rfl BoC.h (por_fn [_, _, _] (by simp)) rfl rfl rfl rfl rfl ?_)
 |(with_reducible refine W_at ?_); (first
 |(refine W.callV (g := 205) rfl bo_side rfl (pside_fn a) rfl rfl rfl ?_)
 |(refine W.callV (g := 205) rfl bo_side rfl (pside_fn b) rfl rfl rfl ?_))
 |refine wA ?_
 |(refine wC ?_ ?_ <;> intro hc)
 |refine wB ?_ ?_
 |(with_reducible refine JL.block ?_)
 |(with_reducible refine F_at ?_); refine eW (vs := [(_, _)]) Tryz.results147 ?_; (focus (repeat' (first | exact oA | refine oB ?_ | refine oC ?_ ?_ | fail)))
 |exact oM
 |fail)
 all_goals first | with_reducible rfl | rfl | trace_state
def autRow (a : AutD) : List D := [.v (.int .i64 a.states), .v (.int .i64 a.start), .sl 4 (dEdges a.edges)]
theorem pstate_fn (n : Int) (a : AutD) : FnSound Tryz.prog 203 [.val false [.d (.v (.int .i64 n))], .val false [.rptr (autRow a) 0]] [] { vals := [(false, [.d (.v (.bool (decide (0 ≤ n ∧ n < a.states))))])] } := by
 refine startW (tm := [(0, _), (1, _)]) Tryz.func203 rfl Tryz.ntmps203 rfl rfl rfl rfl ?_
 repeat' (first
 |refine wA ?_
 |(refine wC ?_ ?_ <;> intro hc)
 |refine wB ?_ ?_
 |(with_reducible refine JL.block ?_)
 |(with_reducible refine F_at ?_); refine eW (vs := [(_, _)]) Tryz.results203 ?_; (focus (repeat' (first | exact oA | refine oB ?_ | refine oC ?_ ?_ | fail)))
 |exact oM
 |fail)
 all_goals first | with_reducible rfl | exact (decide_eq_false (by omega)).symm | exact decide_eq_decide.2 (by omega) | trace_state
theorem bo_state : BoI Tryz.prog 203 := ⟨by kernel_rfl⟩
theorem pautvalid_fn (a : AutD) (hl : a.edges.length ≤ 5900000000000) : FnSound Tryz.prog 144 [.val true (autC a)] [] { vals := [(false, [.d (.v (.int .i64 (autErr a)))])] } := by
 refine startW (tm := [(0, _)]) Tryz.func144 rfl Tryz.ntmps144 rfl rfl rfl rfl ?_
 repeat' (first
 |(with_reducible refine K_ca 147 ?_); refine zC (pcmpE_fn _ _) ?_
 |(with_reducible refine W_at ?_); (first
 |(refine W.mkfn rfl rfl ?_)
 |(refine W.callC rfl bo_state rfl rfl rfl (pstate_fn _ a) rfl rfl ?_))
 |(with_reducible refine blk_at (id := 0) ?_); ((with_reducible refine JL.loopW 0 799 (fun (i : Nat) tm => (24, .one false [.d (.v (.int .i64 ((i : Int))))]) :: tm) (fun (i : Nat) bo => bo) (fun (i : Nat) => i ≤ a.edges.length ∧ ∀ j, j < i → edgeAt a.states a.edges j = true) (fun (i : Nat) => a.edges.length - i) (0) ?_ (fun i hi => ?_) ?_); (focus (apply SubW [] rfl ?_ ?_ rfl ?_; (repeat' (first | exact kA | refine kB ?_ | refine kC ?_ ?_ | exact kD | fail)))))
 |((with_reducible refine round_next (i := i) (i + 1) ?_ ?_ ?_); (focus (apply SubW [] rfl ?_ ?_ rfl ?_; (repeat' (first | exact kA | refine kB ?_ | refine kC ?_ ?_ | exact kD | fail)))))
 |refine wA ?_
 |(refine wC ?_ ?_ <;> intro hc)
 |refine wB ?_ ?_
 |(with_reducible refine JL.block ?_)
 |(with_reducible refine F_at ?_); refine eW (vs := [(_, _)]) Tryz.results144 ?_; (focus (repeat' (first | exact oA | refine oB ?_ | refine oC ?_ ?_ | fail)))
 |exact oM
 |fail)
 all_goals first
  | with_reducible rfl
  | omega
  | exact ⟨Nat.zero_le _, fun j hj => absurd hj (Nat.not_lt_zero j)⟩
  | exact aut_3 (by omega)
  | exact aut_1 (by omega) (by omega) hc
  | exact aut_e (i := i) (by omega) (by omega) (by omega) (by omega) (edge_no (by omega))
  | exact aut_e (i := i) (by omega) (by omega) (by omega) (by omega) (edge_bef (by assumption) (cmp_no hc))
  | exact ⟨by omega, lt_next hi.2 (edge_yes (by omega) (.inr (cmp_yes hc)))⟩
  | exact ⟨by omega, lt_next hi.2 (edge_yes (by omega) (.inl hc))⟩
  | exact aut_0 (by omega) (by omega) (by omega) (fun j hj => hi.2 j (by omega))
  | trace_state
end Go.Proofs.YtjpdemikmdfonaaGreatDoor

namespace Go.Proofs.YtjpdemikmdfonaaGreatDoor
open Go Go.RowKit
set_option maxRecDepth 100000
set_option maxHeartbeats 8000000
set_option linter.unusedSimpArgs false
set_option linter.unusedVariables false
def fillN (n : Nat) : Nat → List Int
 | 0 => List.replicate n 0
 | i + 1 => (fillN n i).set i (-1)
theorem fillN_len (n : Nat) : ∀ i, (fillN n i).length = n
 | 0 => List.length_replicate
 | i + 1 => by unfold fillN; rw [List.length_set, fillN_len n i]
theorem fillN_get (n : Nat) : ∀ i j, i ≤ n → (fillN n i)[j]? = if j < n then some (if j < i then -1 else 0) else none
 | 0, j, _ => by
  unfold fillN
  rw [List.getElem?_replicate]; simp
 | i + 1, j, h => by
  unfold fillN
  rw [List.getElem?_set, fillN_len, fillN_get n i j (by omega)]
  by_cases e : i = j
  ·subst e
   rw [if_pos rfl, if_pos (by omega), if_pos (by omega), if_pos (by omega)]
  ·rw [if_neg e]
   by_cases g : j < n
   ·rw [if_pos g, if_pos g]
    by_cases k : j < i
    ·rw [if_pos k, if_pos (by omega)]
    ·rw [if_neg k, if_neg (by omega)]
   ·rw [if_neg g, if_neg g]
theorem fillN_all (S : Int) : fillN S.toNat S.toNat = placeOf S [] := by
 rw [placeOf_nil]
 refine List.ext_getElem? fun j => ?_
 rw [fillN_get _ _ _ (Nat.le_refl _), List.getElem?_replicate]
 split
 ·rename_i h; simp [h]
 ·rfl
theorem place_first {S x : Int} (h : 0 ≤ x ∧ x < S) : (placeOf S []).set x.toNat 0 = placeOf S [x] := placeOf_set (o := []) h (by simp)
theorem found_in {a : AutD} {o : List Int} {e : EdgeD} (he : edgeOk a.states e = true) (h : ¬ (placeOf a.states o).getD e.to.toNat 0 < 0) : ¬ posI o e.to < 0 := by
 have := of_decide_eq_true he
 rwa [placeOf_get (by omega)] at h
theorem found_out {a : AutD} {o : List Int} {e : EdgeD} (he : edgeOk a.states e = true) (h : (placeOf a.states o).getD e.to.toNat 0 < 0) : posI o e.to < 0 := by
 have := of_decide_eq_true he
 rwa [placeOf_get (by omega)] at h
theorem place_next {a : AutD} {o : List Int} {e : EdgeD} (he : edgeOk a.states e = true) (h : posI o e.to < 0) : (placeOf a.states o).set e.to.toNat (o.length : Int) = placeOf a.states (o ++ [e.to]) := by
 have := of_decide_eq_true he
 exact placeOf_set (by omega) (posI_neg.1 h)
theorem pfound_fn (a : AutD) (hs : AutIn a) : FnSound Tryz.prog 145 [.val true (autC a)] [] { vals := [(false, [.d (.sl 1 (dInts (ordP a)))]), (false, [.d (.sl 1 (dInts (placeOf a.states (ordP a))))])] } := by
 have hst := hs.start
 have hmo := hs.most
 have hfe := hs.few
 have hpl := fun (o : List Int) => placeOf_len (S := a.states) (o := o)
 have hrl : (List.replicate a.states.toNat (0 : Int)).length = a.states.toNat := List.length_replicate
 have hfl := fun (i : Nat) => fillN_len a.states.toNat i
 have hed := fun (k : Nat) (hk : k < a.edges.length) => of_decide_eq_true (hs.edges k hk)
 have hlen := fun (o : List Int) (h : OrdIn a.states o) => h.len
 have hsc := fun (p : Nat × List Int) (h : OrdIn a.states p.2) (k : Nat) (hk : k ≤ a.edges.length) => (h.scan hs.edges (x := p.2.getD p.1 0) k hk).len
 have hge := fun (p : Nat × List Int) (k : Nat) (hk : k ≤ a.edges.length) (hi : p.1 < p.2.length) => scanN_get (es := a.edges) (x := p.2.getD p.1 0) hk hi
 refine startW (tm := [(0, _)]) Tryz.func145 rfl Tryz.ntmps145 rfl rfl rfl rfl ?_
 repeat' (first
 |(with_reducible refine rgn 12 1200 ?_ ?_); exact rfl
 |(with_reducible refine rgn 13 1300 ?_ ?_); exact rfl
 |(with_reducible refine rgn 14 1400 ?_ ?_); exact rfl
 |(with_reducible refine rgn 15 1500 ?_ ?_); exact rfl
 |(with_reducible refine rgn 16 1600 ?_ ?_); exact rfl
 |(with_reducible refine rgn 17 1700 ?_ ?_); exact rfl
 |(with_reducible refine rgn 18 1800 ?_ ?_); exact rfl
 |(with_reducible refine rgn 11 1900 ?_ ?_); exact rfl
 |(with_reducible refine blk_at (id := 0) ?_); (try (refine JL.zeroW 4 _ 3 1 rfl rfl ?_)); (refine JL.rekW 4 (1064, 351) rfl rfl rfl rfl ?_); ((with_reducible refine JL.loopW 0 399 (fun (i : Nat) tm => (15, .one false [.d (.v (.int .i64 ((i : Int))))]) :: (4, .one false [.own (1064, 351)]) :: tm) (fun (i : Nat) bo => ((1064, 351), some (.sl 3 1 ((dInts (fillN a.states.toNat i))))) :: bo) (fun (i : Nat) => i ≤ a.states.toNat) (fun (i : Nat) => a.states.toNat - i) (0) ?_ (fun i hi => have hfi := hfl i; ?_) ?_); (focus (apply SubW [((1064, 351), _)] rfl ?_ ?_ rfl ?_; (repeat' (first | exact kA | refine kB ?_ | refine kC ?_ ?_ | exact kD | fail)))))
 |((with_reducible refine round_next (i := i) (i + 1) ?_ ?_ ?_); (focus (apply SubW [((1064, 351), _)] rfl ?_ ?_ rfl ?_; (repeat' (first | exact kA | refine kB ?_ | refine kC ?_ ?_ | exact kD | fail)))))
 |(with_reducible refine blk_at (id := 2) ?_); (try (refine JL.zeroW 6 _ 3 1 rfl rfl ?_)); (refine JL.rekW 6 (1096, 1051) rfl rfl rfl rfl ?_); (try (refine JL.zeroW 4 _ 3 1 rfl rfl ?_)); (refine JL.rekW 4 (1064, 1053) rfl rfl rfl rfl ?_); ((with_reducible refine JL.loopW 2 1099 (fun (p : Nat × List Int) tm => (7, .one false [.d (.v (.int .i64 ((p.1 : Int))))]) :: (6, .one false [.own (1096, 1051)]) :: (4, .one false [.own (1064, 1053)]) :: tm) (fun (p : Nat × List Int) bo => ((1096, 1051), some (.sl 3 1 ((dInts p.2)))) :: ((1064, 1053), some (.sl 3 1 ((dInts (placeOf a.states p.2))))) :: bo) (fun (p : Nat × List Int) => OrdIn a.states p.2 ∧ p.1 ≤ p.2.length ∧ ordF a.edges (a.states.toNat - p.1) p.1 p.2 = ordP a) (fun (p : Nat × List Int) => a.states.toNat - p.1) ((0, [a.start])) ?_ (fun p hp => have hlp := hlen p.2 hp.1; have hpp := hpl p.2; ?_) ?_); (focus (apply SubW [((1096, 1051), _), ((1064, 1053), _)] rfl ?_ ?_ rfl ?_; (repeat' (first | exact kA | refine kB ?_ | refine kC ?_ ?_ | exact kD | fail)))))
 |((with_reducible refine round_next (i := p) ((p.1 + 1, scanE a.edges (p.2.getD p.1 0) p.2)) ?_ ?_ ?_); (focus (apply SubW [((1096, 1051), _), ((1064, 1053), _)] rfl ?_ ?_ rfl ?_; (repeat' (first | exact kA | refine kB ?_ | refine kC ?_ ?_ | exact kD | fail)))))
 |(with_reducible refine blk_at (id := 4) ?_); (try (refine JL.zeroW 6 _ 3 1 rfl rfl ?_)); (refine JL.rekW 6 (1096, 1251) rfl rfl rfl rfl ?_); (try (refine JL.zeroW 4 _ 3 1 rfl rfl ?_)); (refine JL.rekW 4 (1064, 1253) rfl rfl rfl rfl ?_); ((with_reducible refine JL.loopW 4 1299 (fun (k : Nat) tm => (38, .one false [.d (.v (.int .i64 ((k : Int))))]) :: (6, .one false [.own (1096, 1251)]) :: (4, .one false [.own (1064, 1253)]) :: tm) (fun (k : Nat) bo => ((1096, 1251), some (.sl 3 1 ((dInts (scanN a.edges (p.2.getD p.1 0) p.2 k))))) :: ((1064, 1253), some (.sl 3 1 ((dInts (placeOf a.states (scanN a.edges (p.2.getD p.1 0) p.2 k)))))) :: bo) (fun (k : Nat) => k ≤ a.edges.length ∧ p.1 < p.2.length) (fun (k : Nat) => a.edges.length - k) (0) ?_ (fun k hk => have hsk := hsc p hp.1 k (by omega); have hgk := hge p k (by omega) (by omega); have hpk := hpl (scanN a.edges (p.2.getD p.1 0) p.2 k); have hek := hed k; ?_) ?_); (focus (apply SubW [((1096, 1251), _), ((1064, 1253), _)] rfl ?_ ?_ rfl ?_; (repeat' (first | exact kA | refine kB ?_ | refine kC ?_ ?_ | exact kD | fail)))))
 |((with_reducible refine round_next (i := k) (k + 1) ?_ ?_ ?_); (focus (apply SubW [((1096, 1251), _), ((1064, 1253), _)] rfl ?_ ?_ rfl ?_; (repeat' (first | exact kA | refine kB ?_ | refine kC ?_ ?_ | exact kD | fail)))))
 |refine wA ?_
 |(refine wC ?_ ?_ <;> intro hc)
 |refine wB ?_ ?_
 |(with_reducible refine JL.block ?_)
 |(with_reducible refine F_at ?_); refine eW (vs := [(_, _), (_, _)]) Tryz.results145 ?_; (focus (repeat' (first | exact oA | refine oB ?_ | refine oC ?_ ?_ | fail)))
 |exact oM
 |fail)
 all_goals first
  | with_reducible rfl
  | omega
  | rfl
  | exact congrArg dInts (by rw [Int.toNat_natCast]; rfl)
  | (rw [show i = a.states.toNat by omega, fillN_all]; exact congrArg dInts (place_first hst))
  | exact congrArg dInts (scan_yes (by omega) (by omega) (by assumption) (found_out (hs.edges k (by omega)) hc))
  | exact congrArg dInts (scan_in (by omega) (found_in (hs.edges k (by omega)) hc))
  | exact congrArg dInts (scan_no (by omega) (by omega) hc)
  | (refine congrArg dInts ((place_next (hs.edges k (by omega)) (found_out (hs.edges k (by omega)) hc)).trans (congrArg (placeOf a.states) ?_)); exact scan_yes (by omega) (by omega) (by assumption) (found_out (hs.edges k (by omega)) hc))
  | exact congrArg (fun o => dInts (placeOf a.states o)) (scan_in (by omega) (found_in (hs.edges k (by omega)) hc))
  | exact congrArg (fun o => dInts (placeOf a.states o)) (scan_no (by omega) (by omega) hc)
  | (refine congrArg dInts ?_; rw [show k = a.edges.length by omega]; exact scanN_all)
  | (refine congrArg (fun o => dInts (placeOf a.states o)) ?_; rw [show k = a.edges.length by omega]; exact scanN_all)
  | exact ord_step hs hp (by omega)
  | (rw [← hp.2.2, ordF_end (by omega)]; done)
  | exact ⟨ord_first hs, Nat.zero_le _, rfl⟩
  | trace_state
end Go.Proofs.YtjpdemikmdfonaaGreatDoor

