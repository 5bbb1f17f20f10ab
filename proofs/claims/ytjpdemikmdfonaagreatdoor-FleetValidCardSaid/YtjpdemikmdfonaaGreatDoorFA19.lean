/- Rules of runs and contracts of functions, for the claims of one seat. -/
import Derived.Test.YtjpdemikmdfonaaGreatDoorFA15
import Derived.Test.YtjpdemikmdfonaaGreatDoorFA18
namespace Go.Proofs.YtjpdemikmdfonaaGreatDoor
open Go Go.RowKit
set_option maxRecDepth 100000
set_option maxHeartbeats 8000000
set_option linter.unusedSimpArgs false
set_option linter.unusedVariables false
theorem rbefore_fn (a b : EdgeD) : FnSound Tryz.prog 273 [.val true (edgeC a), .val true (edgeC b)] [] { vals := [(false, [.d (.v (.bool (befE a b)))])] } := by
 refine startW (tm := [(0, _), (1, _)]) Tryz.func273 rfl Tryz.ntmps273 rfl rfl rfl rfl ?_
 repeat' (first
 |refine wA ?_
 |(refine wC ?_ ?_ <;> intro hc)
 |refine wB ?_ ?_
 |(with_reducible refine JL.block ?_)
 |(with_reducible refine F_at ?_); refine eW (vs := [(_, _)]) Tryz.results273 ?_; (focus (repeat' (first | exact oA | refine oB ?_ | refine oC ?_ ?_ | fail)))
 |exact oM
 |fail)
 all_goals first
  | rfl
  | (unfold befE; refine decide_eq_decide.2 ?_; simp_all; done)
  | (unfold befE; simp_all; done)
  | (rename_i h0; unfold befE; cases h1 : a.send <;> cases h2 : b.send <;> simp_all)
  | trace_state
theorem aut_3 {a : AutD} (h : 12 < a.states ∨ (100 : Int) < a.edges.length) : 3 = autErr a := by
 unfold autErr; rw [if_pos (by omega)]
theorem aut_1 {a : AutD} (h1 : ¬ 12 < a.states) (h2 : ¬ (100 : Int) < a.edges.length) (h : ¬ (0 ≤ a.start ∧ a.start < a.states)) : 1 = autErr a := by
 unfold autErr; rw [if_neg (by omega), if_pos h]
theorem aut_e {a : AutD} {i : Nat} (h1 : ¬ 12 < a.states) (h2 : ¬ (100 : Int) < a.edges.length) (h3 : 0 ≤ a.start ∧ a.start < a.states) (hi : i < a.edges.length) (h : edgeAt a.states a.edges i = false) : 1 = autErr a := by
 unfold autErr; rw [if_neg (by omega), if_neg (fun g => g h3), edgesOk_no hi h]; rfl
theorem aut_0 {a : AutD} (h1 : ¬ 12 < a.states) (h2 : ¬ (100 : Int) < a.edges.length) (h3 : 0 ≤ a.start ∧ a.start < a.states) (h : ∀ j, j < a.edges.length → edgeAt a.states a.edges j = true) : 0 = autErr a := by
 unfold autErr; rw [if_neg (by omega), if_neg (fun g => g h3), edgesOk_yes h]; rfl
theorem edge_no {S : Int} {l : List EdgeD} {i : Nat} (h : ¬ (0 ≤ (l.getD i nilEd).frm ∧ (l.getD i nilEd).frm < S ∧ 0 ≤ (l.getD i nilEd).to ∧ (l.getD i nilEd).to < S ∧ 1 ≤ (l.getD i nilEd).label ∧ (l.getD i nilEd).label ≤ 1000)) : edgeAt S l i = false := by
 unfold edgeAt edgeOk; rw [decide_eq_false h]; rfl
theorem edge_bef {S : Int} {l : List EdgeD} {i : Nat} (hi : 0 < (i : Int)) (h : befE (l.getD ((i : Int) - 1).toNat nilEd) (l.getD i nilEd) = false) : edgeAt S l i = false := by
 rw [show ((i : Int) - 1).toNat = i - 1 by omega] at h
 unfold edgeAt; rw [h, decide_eq_false (by omega)]; simp
theorem edge_yes {S : Int} {l : List EdgeD} {i : Nat} (h : 0 ≤ (l.getD i nilEd).frm ∧ (l.getD i nilEd).frm < S ∧ 0 ≤ (l.getD i nilEd).to ∧ (l.getD i nilEd).to < S ∧ 1 ≤ (l.getD i nilEd).label ∧ (l.getD i nilEd).label ≤ 1000) (hb : ¬ 0 < (i : Int) ∨ befE (l.getD ((i : Int) - 1).toNat nilEd) (l.getD i nilEd) = true) : edgeAt S l i = true := by
 unfold edgeAt edgeOk
 rw [decide_eq_true h]
 rcases hb with g | g
 ·rw [decide_eq_true (show i = 0 by omega)]; rfl
 ·by_cases e : i = 0
  ·rw [decide_eq_true e]; rfl
  ·rw [show ((i : Int) - 1).toNat = i - 1 by omega] at g
   rw [g]; simp
theorem rautvalid_fn (a : AutD) (hl : a.edges.length ≤ 5900000000000) : FnSound Tryz.prog 213 [.val true (autC a)] [] { vals := [(false, [.d (.v (.int .i64 (autErr a)))])] } := by
 refine startW (tm := [(0, _)]) Tryz.func213 rfl Tryz.ntmps213 rfl rfl rfl rfl ?_
 repeat' (first
 |(with_reducible refine rgn 8 800 ?_ ?_); exact rfl
 |(with_reducible refine rgn 9 900 ?_ ?_); exact rfl
 |(with_reducible refine rgn 10 1000 ?_ ?_); exact rfl
 |(with_reducible refine rgn 11 1100 ?_ ?_); exact rfl
 |(with_reducible refine rgn 12 1200 ?_ ?_); exact rfl
 |(with_reducible refine rgn 7 1300 ?_ ?_); exact rfl
 |(with_reducible refine K_ca 273 ?_); refine zC (rbefore_fn _ _) ?_
 |(with_reducible refine blk_at (id := 0) ?_); ((with_reducible refine JL.loopW 0 699 (fun (i : Nat) tm => (3, .one false [.d (.v (.int .i64 ((i : Int))))]) :: tm) (fun (i : Nat) bo => bo) (fun (i : Nat) => i ≤ a.edges.length ∧ ∀ j, j < i → edgeAt a.states a.edges j = true) (fun (i : Nat) => a.edges.length - i) (0) ?_ (fun i hi => ?_) ?_); (focus (apply SubW [] rfl ?_ ?_ rfl ?_; (repeat' (first | exact kA | refine kB ?_ | refine kC ?_ ?_ | exact kD | fail)))))
 |((with_reducible refine round_next (i := i) (i + 1) ?_ ?_ ?_); (focus (apply SubW [] rfl ?_ ?_ rfl ?_; (repeat' (first | exact kA | refine kB ?_ | refine kC ?_ ?_ | exact kD | fail)))))
 |refine wA ?_
 |(refine wC ?_ ?_ <;> intro hc)
 |refine wB ?_ ?_
 |(with_reducible refine JL.block ?_)
 |(with_reducible refine F_at ?_); refine eW (vs := [(_, _)]) Tryz.results213 ?_; (focus (repeat' (first | exact oA | refine oB ?_ | refine oC ?_ ?_ | fail)))
 |exact oM
 |fail)
 all_goals first
  | rfl
  | omega
  | exact ⟨Nat.zero_le _, fun j hj => absurd hj (Nat.not_lt_zero j)⟩
  | exact aut_3 (by omega)
  | exact aut_1 (by omega) (by omega) (by omega)
  | exact aut_e (i := i) (by omega) (by omega) (by omega) (by omega) (edge_no (by omega))
  | exact aut_e (by omega) (by omega) (by omega) (by omega) (edge_bef (by assumption) (decide_eq_false hc))
  | exact ⟨by omega, lt_next hi.2 (edge_yes (by omega) (.inr (decide_eq_true hc)))⟩
  | exact ⟨by omega, lt_next hi.2 (edge_yes (by omega) (.inl hc))⟩
  | exact aut_0 (by omega) (by omega) (by omega) (fun j hj => hi.2 j (by omega))
  | trace_state
theorem pos_next {o : List Int} {x : Int} {k : Nat} (h : ∀ j, j < k → ¬ o.getD j 0 = x) (hc : ¬ o.getD k 0 = x) : ∀ j, j < k + 1 → ¬ o.getD j 0 = x := lt_next h hc
theorem pos_at {o : List Int} {x : Int} {k : Nat} (hk : k < o.length) (h : ∀ j, j < k → ¬ o.getD j 0 = x) (hc : o.getD k 0 = x) : (k : Int) = posI o x := by
 have hm : x ∈ o := by rw [← hc]; simp [List.getD, hk]
 unfold posI
 rw [if_pos hm]
 have h1 : o.idxOf x < o.length := List.idxOf_lt_length_iff.2 hm
 have h2 : o[o.idxOf x] = x := List.getElem_idxOf h1
 have h3 : ¬ o.idxOf x < k := fun g => h _ g (by simp [List.getD, h1, h2])
 have h4 : ¬ k < o.idxOf x := fun g => by
  have := List.not_of_lt_findIdx (p := (· == x)) (xs := o) (i := k) g
  simp [List.getD, hk] at hc
  simp [hc] at this
 omega
theorem pos_none {o : List Int} {x : Int} {k : Nat} (hk : ¬ (k : Int) < o.length) (h : ∀ j, j < k → ¬ o.getD j 0 = x) : -1 = posI o x := by
 have hm : x ∉ o := fun g => by
  obtain ⟨j, hj, e⟩ := List.getElem_of_mem g
  exact h j (by omega) (by simp [List.getD, hj, e])
 unfold posI
 rw [if_neg hm]
theorem rat_fn (o : List Int) (x : Int) (hl : o.length ≤ 5900000000000) : FnSound Tryz.prog 215 [.val false [.d (.sl 1 (dInts o))], .val false [.d (.v (.int .i64 x))]] [] { vals := [(false, [.d (.v (.int .i64 (posI o x)))])] } := by
 refine startW (tm := [(0, _), (1, _)]) Tryz.func215 rfl Tryz.ntmps215 rfl rfl rfl rfl ?_
 repeat' (first
 |(with_reducible refine rgn 4 400 ?_ ?_); exact rfl
 |(with_reducible refine rgn 5 500 ?_ ?_); exact rfl
 |(with_reducible refine rgn 3 600 ?_ ?_); exact rfl
 |(with_reducible refine blk_at (id := 0) ?_); ((with_reducible refine JL.loopW 0 299 (fun (k : Nat) tm => (5, .one false [.d (.v (.int .i64 ((k : Int))))]) :: tm) (fun (k : Nat) bo => bo) (fun (k : Nat) => k ≤ o.length ∧ ∀ j, j < k → ¬ o.getD j 0 = x) (fun (k : Nat) => o.length - k) (0) ?_ (fun k hk => ?_) ?_); (focus (apply SubW [] rfl ?_ ?_ rfl ?_; (repeat' (first | exact kA | refine kB ?_ | refine kC ?_ ?_ | exact kD | fail)))))
 |((with_reducible refine round_next (i := k) (k + 1) ?_ ?_ ?_); (focus (apply SubW [] rfl ?_ ?_ rfl ?_; (repeat' (first | exact kA | refine kB ?_ | refine kC ?_ ?_ | exact kD | fail)))))
 |refine wA ?_
 |(refine wC ?_ ?_ <;> intro hc)
 |refine wB ?_ ?_
 |(with_reducible refine JL.block ?_)
 |(with_reducible refine F_at ?_); refine eW (vs := [(_, _)]) Tryz.results215 ?_; (focus (repeat' (first | exact oA | refine oB ?_ | refine oC ?_ ?_ | fail)))
 |exact oM
 |fail)
 all_goals first
  | rfl
  | omega
  | exact ⟨Nat.zero_le _, fun j hj => absurd hj (Nat.not_lt_zero j)⟩
  | exact ⟨by omega, pos_next hk.2 hc⟩
  | exact pos_at (by omega) hk.2 hc
  | exact pos_none hc hk.2
  | trace_state
end Go.Proofs.YtjpdemikmdfonaaGreatDoor

namespace Go.Proofs.YtjpdemikmdfonaaGreatDoor
open Go Go.RowKit
theorem rgL (lend : FuncId → Bool) {N id nx nx' : Nat} {l : List Oper} {dr : Bool} {cs : List Code} {R : AX → St → Prop} {tm : List (Nat × AV)} {bo : BO} [RegN id nx'] (hn : Nat.ble nx nx' = true) (h : W Tryz.prog lend N ⟨l⟩ dr cs R 0 l tm bo nx' []) : JL Tryz.prog N (.region id ⟨l⟩ dr :: cs) ⟨tm, clean bo, nx⟩ R := JL.regionW nx' mo hn h
end Go.Proofs.YtjpdemikmdfonaaGreatDoor

namespace Go.Proofs.YtjpdemikmdfonaaGreatDoor
open Go Go.RowKit
set_option maxRecDepth 100000
set_option maxHeartbeats 8000000
set_option linter.unusedSimpArgs false
set_option linter.unusedVariables false
theorem scan_no {es : List EdgeD} {o : List Int} {p k : Nat} (hk : k < es.length) (hi : p < o.length) (hc : ¬ (es.getD k nilEd).frm = (scanN es (o.getD p 0) o k).getD (p : Int).toNat 0) : scanN es (o.getD p 0) o k = scanN es (o.getD p 0) o (k + 1) := by
 rw [Int.toNat_natCast, (scanN_get (by omega) hi).2] at hc
 rw [scanN_next hk]
 unfold stepE
 rw [if_neg (fun a => hc a.1)]
theorem scan_in {es : List EdgeD} {o : List Int} {p k : Nat} (hk : k < es.length) (hc : ¬ posI (scanN es (o.getD p 0) o k) (es.getD k nilEd).to < 0) : scanN es (o.getD p 0) o k = scanN es (o.getD p 0) o (k + 1) := by
 rw [posI_neg] at hc
 rw [scanN_next hk]
 unfold stepE
 rw [if_neg (fun a => hc a.2)]
theorem scan_yes {es : List EdgeD} {o : List Int} {p k : Nat} (hk : k < es.length) (hi : p < o.length) (hc : (es.getD k nilEd).frm = (scanN es (o.getD p 0) o k).getD (p : Int).toNat 0) (hm : posI (scanN es (o.getD p 0) o k) (es.getD k nilEd).to < 0) : scanN es (o.getD p 0) o k ++ [(es.getD k nilEd).to] = scanN es (o.getD p 0) o (k + 1) := by
 rw [posI_neg] at hm
 have h2 := hc
 rw [Int.toNat_natCast, (scanN_get (by omega) hi).2] at h2
 rw [scanN_next hk]
 unfold stepE
 rw [if_pos ⟨h2, hm⟩]
theorem ord_step {a : AutD} (hs : AutIn a) {p : Nat × List Int} (hp : OrdIn a.states p.2 ∧ p.1 ≤ p.2.length ∧ ordF a.edges (a.states.toNat - p.1) p.1 p.2 = ordP a) (hi : p.1 < p.2.length) : OrdIn a.states (p.1 + 1, scanE a.edges (p.2.getD p.1 0) p.2).2 ∧ (p.1 + 1, scanE a.edges (p.2.getD p.1 0) p.2).1 ≤ (p.1 + 1, scanE a.edges (p.2.getD p.1 0) p.2).2.length ∧ ordF a.edges (a.states.toNat - (p.1 + 1, scanE a.edges (p.2.getD p.1 0) p.2).1) (p.1 + 1, scanE a.edges (p.2.getD p.1 0) p.2).1 (p.1 + 1, scanE a.edges (p.2.getD p.1 0) p.2).2 = ordP a := by
 refine ⟨?_, ?_, ?_⟩
 ·show OrdIn a.states (scanE a.edges (p.2.getD p.1 0) p.2)
  rw [← scanN_all]; exact hp.1.scan hs.edges _ (Nat.le_refl _)
 ·show p.1 + 1 ≤ (scanE a.edges (p.2.getD p.1 0) p.2).length
  rw [← scanN_all]; exact (scanN_get (Nat.le_refl _) hi).1
 ·show ordF a.edges (a.states.toNat - (p.1 + 1)) (p.1 + 1) (scanE a.edges (p.2.getD p.1 0) p.2) = ordP a
  rw [← hp.2.2, ordF_next hs hp.1 hi]
theorem rord_fn (a : AutD) (hs : AutIn a) : FnSound Tryz.prog 214 [.val true (autC a)] [] { vals := [(false, [.d (.sl 1 (dInts (ordP a)))])] } := by
 have hlen := fun (o : List Int) (h : OrdIn a.states o) => h.len
 have hst := hs.start
 have hmo := hs.most
 have hfe := hs.few
 have hsc := fun (p : Nat × List Int) (h : OrdIn a.states p.2) (k : Nat) (hk : k ≤ a.edges.length) => (h.scan hs.edges (x := p.2.getD p.1 0) k hk).len
 have hge := fun (p : Nat × List Int) (k : Nat) (hk : k ≤ a.edges.length) (hi : p.1 < p.2.length) => scanN_get (es := a.edges) (x := p.2.getD p.1 0) hk hi
 refine startW (tm := [(0, _)]) Tryz.func214 rfl Tryz.ntmps214 rfl rfl rfl rfl ?_
 repeat' (first
 |(with_reducible refine JL.regionW (lend := (fun g => g == 215)) (id := 5) 500 mo ?_ ?_); exact rfl
 |(with_reducible refine JL.regionW (lend := (fun g => g == 215)) (id := 6) 600 mo ?_ ?_); exact rfl
 |(with_reducible refine JL.regionW (lend := (fun g => g == 215)) (id := 8) 700 mo ?_ ?_); exact rfl
 |(with_reducible refine JL.regionW (lend := (fun g => g == 215)) (id := 9) 800 mo ?_ ?_); exact rfl
 |(with_reducible refine JL.regionW (lend := (fun g => g == 215)) (id := 10) 900 mo ?_ ?_); exact rfl
 |(with_reducible refine JL.regionW (lend := (fun g => g == 215)) (id := 7) 1000 mo ?_ ?_); exact rfl
 |(with_reducible refine JL.regionW (lend := (fun g => g == 215)) (id := 4) 1100 mo ?_ ?_); exact rfl
 |(with_reducible refine rgL (fun g => g == 215) ?_ ?_); exact rfl
 |(with_reducible refine K_ca 215 ?_); (first
 |refine W.call0A rfl BoC.h (rat_fn _ _ (by omega)) rfl rfl rfl ?_
 |refine W.call1A rfl BoC.h (rat_fn _ _ (by omega)) rfl rfl rfl rfl rfl ?_)
 |(with_reducible refine blk_at (id := 0) ?_); (try (refine JL.zeroW 3 _ 3 1 rfl rfl ?_)); (refine JL.rekW 3 (1048, 351) rfl rfl rfl rfl ?_); ((with_reducible refine JL.loopW 0 399 (fun (p : Nat × List Int) tm => (4, .one false [.d (.v (.int .i64 ((p.1 : Int))))]) :: (3, .one false [.own (1048, 351)]) :: tm) (fun (p : Nat × List Int) bo => ((1048, 351), some (.sl 3 1 ((dInts p.2)))) :: bo) (fun (p : Nat × List Int) => OrdIn a.states p.2 ∧ p.1 ≤ p.2.length ∧ ordF a.edges (a.states.toNat - p.1) p.1 p.2 = ordP a) (fun (p : Nat × List Int) => a.states.toNat - p.1) ((0, [a.start])) ?_ (fun p hp => have hlp := hlen p.2 hp.1; ?_) ?_); (focus (apply SubW [((1048, 351), _)] rfl ?_ ?_ rfl ?_; (repeat' (first | exact kA | refine kB ?_ | refine kC ?_ ?_ | exact kD | fail)))))
 |((with_reducible refine round_next (i := p) ((p.1 + 1, scanE a.edges (p.2.getD p.1 0) p.2)) ?_ ?_ ?_); (focus (apply SubW [((1048, 351), _)] rfl ?_ ?_ rfl ?_; (repeat' (first | exact kA | refine kB ?_ | refine kC ?_ ?_ | exact kD | fail)))))
 |(with_reducible refine blk_at (id := 2) ?_); (try (refine JL.zeroW 3 _ 3 1 rfl rfl ?_)); (refine JL.rekW 3 (1048, 551) rfl rfl rfl rfl ?_); ((with_reducible refine JL.loopW 2 599 (fun (k : Nat) tm => (5, .one false [.d (.v (.int .i64 ((k : Int))))]) :: (3, .one false [.own (1048, 551)]) :: tm) (fun (k : Nat) bo => ((1048, 551), some (.sl 3 1 ((dInts (scanN a.edges (p.2.getD p.1 0) p.2 k))))) :: bo) (fun (k : Nat) => k ≤ a.edges.length ∧ p.1 < p.2.length) (fun (k : Nat) => a.edges.length - k) (0) ?_ (fun k hk => have hsk := hsc p hp.1 k (by omega); have hgk := hge p k (by omega) (by omega); ?_) ?_); (focus (apply SubW [((1048, 551), _)] rfl ?_ ?_ rfl ?_; (repeat' (first | exact kA | refine kB ?_ | refine kC ?_ ?_ | exact kD | fail)))))
 |((with_reducible refine round_next (i := k) (k + 1) ?_ ?_ ?_); (focus (apply SubW [((1048, 551), _)] rfl ?_ ?_ rfl ?_; (repeat' (first | exact kA | refine kB ?_ | refine kC ?_ ?_ | exact kD | fail)))))
 |refine wA ?_
 |(refine wC ?_ ?_ <;> intro hc)
 |refine wB ?_ ?_
 |(with_reducible refine JL.block ?_)
 |(with_reducible refine F_at ?_); refine eW (vs := [(_, _)]) Tryz.results214 ?_; (focus (repeat' (first | exact oA | refine oB ?_ | refine oC ?_ ?_ | fail)))
 |exact oM
 |fail)
 all_goals first
  | rfl
  | omega
  | exact congrArg dInts (scan_no (by omega) (by omega) hc)
  | exact congrArg dInts (scan_in (by omega) hc)
  | exact congrArg dInts (scan_yes (by omega) (by omega) (by assumption) hc)
  | (refine congrArg dInts ?_; rw [show k = a.edges.length by omega]; exact scanN_all)
  | exact ord_step hs hp (by omega)
  | (rw [← hp.2.2, ordF_end (by omega)]; done)
  | exact ⟨ord_first hs, Nat.zero_le _, rfl⟩
  | trace_state
theorem swap_eq {l : List EdgeD} {k : Nat} (h : 0 < (k : Int)) : (l.set (k : Int).toNat (l.getD ((k : Int) - 1).toNat nilEd)).set ((k : Int) - 1).toNat (l.getD (k : Int).toNat nilEd) = swapE l (k - 1) := by
 rw [Int.toNat_natCast, show ((k : Int) - 1).toNat = k - 1 by omega]
 unfold swapE
 rw [show k - 1 + 1 = k by omega]
theorem bub_yes {l : List EdgeD} {k : Nat} (h : 0 < (k : Int)) (hb : befE (l.getD (k : Int).toNat nilEd) (l.getD ((k : Int) - 1).toNat nilEd) = true) : bubE k l = bubE (k - 1) (swapE l (k - 1)) := by
 rw [Int.toNat_natCast, show ((k : Int) - 1).toNat = k - 1 by omega] at hb
 obtain ⟨j, rfl⟩ : ∃ j, k = j + 1 := ⟨k - 1, by omega⟩
 rw [Nat.add_sub_cancel] at hb ⊢
 conv => lhs; unfold bubE
 rw [if_pos hb]
theorem bub_no {l : List EdgeD} {k : Nat} (hb : ¬ 0 < (k : Int) ∨ befE (l.getD (k : Int).toNat nilEd) (l.getD ((k : Int) - 1).toNat nilEd) = false) : bubE k l = l := by
 match k with
 | 0 => rfl
 | j + 1 =>
  have h2 := hb.resolve_left (by omega)
  rw [Int.toNat_natCast, show (((j + 1 : Nat) : Int) - 1).toNat = j by omega] at h2
  unfold bubE
  rw [if_neg (by rw [h2]; decide)]
theorem sort_first {es : List EdgeD} {i : Nat} : (i, sortN es i ++ [es.getD i nilEd]).2.length = i + 1 ∧ (i, sortN es i ++ [es.getD i nilEd]).1 ≤ i ∧ bubE (i, sortN es i ++ [es.getD i nilEd]).1 (i, sortN es i ++ [es.getD i nilEd]).2 = sortN es (i + 1) :=
 ⟨by show (sortN es i ++ [es.getD i nilEd]).length = i + 1; rw [List.length_append, sortN_len]; rfl, Nat.le_refl _, rfl⟩
theorem rsorted_fn (a : AutD) (hl : a.edges.length ≤ 1000) : FnSound Tryz.prog 216 [.val true (autC a)] [] { vals := [(true, autC ⟨a.states, a.start, sortN a.edges a.edges.length⟩)] } := by
 have hs := fun i => sortN_len (es := a.edges) (i := i)
 refine startW (tm := [(0, _)]) Tryz.func216 rfl Tryz.ntmps216 rfl rfl rfl rfl ?_
 repeat' (first
 |(with_reducible refine rgn 5 500 ?_ ?_); exact rfl
 |(with_reducible refine rgn 6 600 ?_ ?_); exact rfl
 |(with_reducible refine rgn 7 700 ?_ ?_); exact rfl
 |(with_reducible refine rgn 9 800 ?_ ?_); exact rfl
 |(with_reducible refine rgn 4 1000 ?_ ?_); exact rfl
 |(with_reducible refine K_ca 273 ?_); refine zC (rbefore_fn _ _) ?_
 |(with_reducible refine blk_at (id := 0) ?_); (try (refine JL.zeroBW (cs2 := [_, _, _]) (320, 200) 2 _ 193 4 rfl rfl rfl rfl ?_)); (refine JL.rekBW (cs2 := [_, _, _]) (320, 200) 2 (1050, 351) rfl rfl rfl rfl rfl rfl ?_); ((with_reducible refine JL.loopW 0 399 (fun (i : Nat) tm => (4, .one false [.d (.v (.int .i64 ((i : Int))))]) :: tm) (fun (i : Nat) bo => ((320, 200), some (.st 92 [.d (.v (.int .i64 (a.states))), .d (.v (.int .i64 (a.start))), .own (1050, 351)])) :: ((1050, 351), some (.sl 193 4 ((dEdges (sortN a.edges i))))) :: bo) (fun (i : Nat) => i ≤ a.edges.length) (fun (i : Nat) => a.edges.length - i) (0) ?_ (fun i hi => have hsi := hs i; ?_) ?_); (focus (apply SubW [((1050, 351), _)] rfl ?_ ?_ rfl ?_; (repeat' (first | exact kA | refine kB ?_ | refine kC ?_ ?_ | exact kD | fail)))))
 |((with_reducible refine round_next (i := i) (i + 1) ?_ ?_ ?_); (focus (apply SubW [((1050, 351), _)] rfl ?_ ?_ rfl ?_; (repeat' (first | exact kA | refine kB ?_ | refine kC ?_ ?_ | exact kD | fail)))))
 |(with_reducible refine blk_at (id := 2) ?_); (try (refine JL.zeroBW (cs2 := [_, _, _]) (320, 200) 2 _ 193 4 rfl rfl rfl rfl ?_)); (refine JL.rekBW (cs2 := [_, _, _]) (320, 200) 2 (1050, 651) rfl rfl rfl rfl rfl rfl ?_); ((with_reducible refine JL.loopW 2 699 (fun (q : Nat × List EdgeD) tm => (5, .one false [.d (.v (.int .i64 ((q.1 : Int))))]) :: tm) (fun (q : Nat × List EdgeD) bo => ((320, 200), some (.st 92 [.d (.v (.int .i64 (a.states))), .d (.v (.int .i64 (a.start))), .own (1050, 651)])) :: ((1050, 651), some (.sl 193 4 ((dEdges q.2)))) :: bo) (fun (q : Nat × List EdgeD) => q.2.length = i + 1 ∧ q.1 ≤ i ∧ bubE q.1 q.2 = sortN a.edges (i + 1)) (fun (q : Nat × List EdgeD) => q.1) ((i, sortN a.edges i ++ [a.edges.getD i nilEd])) ?_ (fun q hq => ?_) ?_); (focus (apply SubW [((1050, 651), _)] rfl ?_ ?_ rfl ?_; (repeat' (first | exact kA | refine kB ?_ | refine kC ?_ ?_ | exact kD | fail)))))
 |((with_reducible refine round_next (i := q) ((q.1 - 1, swapE q.2 (q.1 - 1))) ?_ ?_ ?_); (focus (apply SubW [((1050, 651), _)] rfl ?_ ?_ rfl ?_; (repeat' (first | exact kA | refine kB ?_ | refine kC ?_ ?_ | exact kD | fail)))))
 |refine wA ?_
 |(refine wC ?_ ?_ <;> intro hc)
 |refine wB ?_ ?_
 |(with_reducible refine JL.block ?_)
 |(with_reducible refine F_at ?_); refine eW (vs := [(_, _)]) Tryz.results216 ?_; (focus (repeat' (first | exact oA | refine oB ?_ | refine oC ?_ ?_ | fail)))
 |exact oM
 |fail)
 all_goals first
  | rfl
  | omega
  | (rw [List.length_append, hsi, wrapI (by simp; omega)]; simp; done)
  | exact congrArg dEdges (swap_eq (by assumption))
  | exact ⟨swapE_len.trans hq.1, by show q.1 - 1 ≤ i; omega, (bub_yes (by assumption) (decide_eq_true hc)).symm.trans hq.2.2⟩
  | exact congrArg dEdges ((bub_no (.inr (decide_eq_false hc))).symm.trans hq.2.2)
  | exact congrArg dEdges ((bub_no (.inl hc)).symm.trans hq.2.2)
  | exact sort_first
  | (rw [show i = a.edges.length by omega]; done)
  | trace_state
end Go.Proofs.YtjpdemikmdfonaaGreatDoor

namespace Go.Proofs.YtjpdemikmdfonaaGreatDoor
open Go Go.RowKit
set_option maxRecDepth 100000
set_option maxHeartbeats 8000000
set_option linter.unusedSimpArgs false
set_option linter.unusedVariables false
theorem pos_mem {o : List Int} {x : Int} (h : 0 ≤ posI o x) : x ∈ o := by
 refine Decidable.by_contra fun g => ?_
 have := posI_neg.2 g
 omega
theorem rtrim_no (a : AutD) (hl : a.edges.length ≤ 5900000000000) (h : ¬ autErr a = 0) : FnSound Tryz.prog 157 [.val true (autC a)] [] { vals := [(true, autC ⟨0, 0, []⟩), (false, [.d (.v (.int .i64 (autErr a)))])] } := by
 refine startW (tm := [(0, _)]) Tryz.func157 rfl Tryz.ntmps157 rfl rfl rfl rfl ?_
 repeat' (first
 |(with_reducible refine rgn 9 900 ?_ ?_); exact rfl
 |(with_reducible refine rgn 10 1000 ?_ ?_); exact rfl
 |(with_reducible refine rgn 11 1100 ?_ ?_); exact rfl
 |(with_reducible refine rgn 8 1200 ?_ ?_); exact rfl
 |(with_reducible refine K_ca 213 ?_); refine zC (rautvalid_fn a hl) ?_
 |refine wA ?_
 |(refine wC ?_ ?_ <;> intro hc)
 |refine wB ?_ ?_
 |(with_reducible refine JL.block ?_)
 |(with_reducible refine F_at ?_); refine eW (vs := [(_, _), (_, _)]) Tryz.results157 ?_; (focus (repeat' (first | exact oA | refine oB ?_ | refine oC ?_ ?_ | fail)))
 |exact oM
 |fail)
 all_goals first | rfl | exact absurd ‹_› h | trace_state
theorem rtrim_fn (a : AutD) (h : autErr a = 0) : FnSound Tryz.prog 157 [.val true (autC a)] [] { vals := [(true, autC ⟨((ordP a).length : Int), 0, sortN (trimN a.edges (ordP a) a.edges.length) (trimN a.edges (ordP a) a.edges.length).length⟩), (false, [.d (.v (.int .i64 0))])] } := by
 have hs := autIn_of h
 have hfe := hs.few
 have hmo := hs.most
 have hol := (ordP_in hs).len
 have ht := fun k => trimN_len (es := a.edges) (o := ordP a) (k := k)
 have hv := rautvalid_fn a (by omega)
 rw [h] at hv
 refine startW (tm := [(0, _)]) Tryz.func157 rfl Tryz.ntmps157 rfl rfl rfl rfl ?_
 repeat' (first
 |(with_reducible refine rgn 9 900 ?_ ?_); exact rfl
 |(with_reducible refine rgn 10 1000 ?_ ?_); exact rfl
 |(with_reducible refine rgn 11 1100 ?_ ?_); exact rfl
 |(with_reducible refine rgn 8 1200 ?_ ?_); exact rfl
 |(with_reducible refine reg_at (id := 12) ?_); (try (refine JL.shutBW (cs2 := [_, _, _]) (192, 600) 2 rfl rfl rfl rfl ?_)); (with_reducible refine rg ?_ ?_); exact rfl
 |(with_reducible refine K_ca 213 ?_); refine zC (hv) ?_
 |(with_reducible refine K_ca 214 ?_); refine zC (rord_fn a hs) ?_
 |(with_reducible refine K_ca 215 ?_); (first
 |refine W.call0A rfl BoC.h (rat_fn _ _ (by omega)) rfl rfl rfl ?_
 |refine W.call1A rfl BoC.h (rat_fn _ _ (by omega)) rfl rfl rfl rfl rfl ?_)
 |(with_reducible refine K_ca 216 ?_); refine zC (rsorted_fn ⟨((ordP a).length : Int), 0, trimN a.edges (ordP a) k⟩ (by show (trimN a.edges (ordP a) k).length ≤ 1000; have := ht k; omega)) ?_
 |(with_reducible refine blk_at (id := 0) ?_); (try (refine JL.zeroBW (cs2 := [_, _, _]) (192, 600) 2 _ 193 4 rfl rfl rfl rfl ?_)); (refine JL.rekBW (cs2 := [_, _, _]) (192, 600) 2 (1098, 751) rfl rfl rfl rfl rfl rfl ?_); ((with_reducible refine JL.loopW 0 799 (fun (k : Nat) tm => (7, .one false [.d (.v (.int .i64 ((k : Int))))]) :: tm) (fun (k : Nat) bo => ((192, 600), some (.st 92 [.d (.v (.int .i64 (((ordP a).length : Int)))), .d (.v (.int .i64 (0))), .own (1098, 751)])) :: ((1098, 751), some (.sl 193 4 ((dEdges (trimN a.edges (ordP a) k))))) :: bo) (fun (k : Nat) => k ≤ a.edges.length) (fun (k : Nat) => a.edges.length - k) (0) ?_ (fun k hk => have htk := ht k; ?_) ?_); (focus (apply SubW [((1098, 751), _)] rfl ?_ ?_ rfl ?_; (repeat' (first | exact kA | refine kB ?_ | refine kC ?_ ?_ | exact kD | fail)))))
 |((with_reducible refine round_next (i := k) (k + 1) ?_ ?_ ?_); (focus (apply SubW [((1098, 751), _)] rfl ?_ ?_ rfl ?_; (repeat' (first | exact kA | refine kB ?_ | refine kC ?_ ?_ | exact kD | fail)))))
 |refine wA ?_
 |(refine wC ?_ ?_ <;> intro hc)
 |refine wB ?_ ?_
 |(with_reducible refine JL.block ?_)
 |(with_reducible refine F_at ?_); refine eW (vs := [(_, _), (_, _)]) Tryz.results157 ?_; (focus (repeat' (first | exact oA | refine oB ?_ | refine oC ?_ ?_ | fail)))
 |exact oM
 |fail)
 all_goals first
  | rfl
  | omega
  | exact congrArg dEdges (trimN_yes (by omega) (pos_mem hc)).symm
  | (rw [show k = a.edges.length by omega]; done)
  | exact congrArg dEdges (trimN_no (by omega) (posI_neg.1 (by omega))).symm
  | trace_state
end Go.Proofs.YtjpdemikmdfonaaGreatDoor

