/- Rules of runs and contracts of functions, for the claims of one seat. -/
import Derived.Test.YtjpdemikmdfonaaGreatDoorFA14
import Derived.Test.YtjpdemikmdfonaaGreatDoorFA15
import Derived.Test.YtjpdemikmdfonaaGreatDoorFA22
namespace Go.Proofs.YtjpdemikmdfonaaGreatDoor
open Go Go.RowKit
set_option maxRecDepth 100000
set_option maxHeartbeats 8000000
set_option linter.unusedSimpArgs false
set_option linter.unusedVariables false
structure SmSrv (x : SrvD) : Prop where
 len : x.vers.length ≤ 5900000000000
 each : ∀ i, i < x.vers.length → SmV (x.vers.getD i nilVe)
structure SmF (s : List SrvD) (l : List LnkD) : Prop where
 srvs : s.length ≤ 5900000000000
 lnks : l.length ≤ 5900000000000
 each : ∀ i, i < s.length → SmSrv (s.getD i nilSv)
section
variable {x : SrvD} {i k : Nat}
theorem sver_e {l : List VerD} (h : ¬ verErr (l.getD i nilVe) = 0) : sverE l i = verErr (l.getD i nilVe) := by unfold sverE; rw [if_pos h]
theorem sver_d {l : List VerD} (h : verErr (l.getD i nilVe) = 0) (hd : dupF (fun k => (l.getD k nilVe).name) i = true) : sverE l i = 5 := by unfold sverE; rw [if_neg (not_not_intro h), if_pos hd]
theorem sver_5 {l : List VerD} (h : verErr (l.getD i nilVe) = 0) (hk : k < i) (he : (l.getD k nilVe).name = (l.getD i nilVe).name) : sverE l i = 5 := sver_d h (dupF_yes (f := fun k => (l.getD k nilVe).name) hk he)
theorem sver_n {l : List VerD} (h : verErr (l.getD i nilVe) = 0) (hd : dupF (fun k => (l.getD k nilVe).name) i = false) : sverE l i = 0 := by unfold sverE; rw [if_neg (not_not_intro h), if_neg (by rw [hd]; decide)]
theorem sver_0 {l : List VerD} (h : verErr (l.getD i nilVe) = 0) (hd : ∀ k, k < i → ¬ (l.getD k nilVe).name = (l.getD i nilVe).name) : sverE l i = 0 := sver_n h (dupF_no (f := fun k => (l.getD k nilVe).name) hd)
theorem srv_10 (h : (x.vers.length : Int) = 0) : 10 = srvErr x := by unfold srvErr; rw [if_pos (by omega)]
def srvGo (x : SrvD) : Prop := ¬ (x.vers.length : Int) = 0 ∧ ¬ (6 : Int) < x.vers.length
theorem srv_3 (h : ¬ (x.vers.length : Int) = 0) (h3 : (6 : Int) < x.vers.length) : 3 = srvErr x := by unfold srvErr; rw [if_neg (by omega), if_pos (by omega)]
theorem srv_at (g : srvGo x) {e : Int} (hi : i < x.vers.length) (hz : ∀ j, j < i → sverE x.vers j = 0) (he : sverE x.vers i = e) (hne : ¬ e = 0) : e = srvErr x := by
 have q := firstE_at (i := i) hi hz he hne
 have g1 := g.1; have g2 := g.2
 unfold srvErr; rw [if_neg (by omega), if_neg (by omega), if_pos (by rw [q]; exact hne), q]
theorem srv_end (g : srvGo x) (hz : ∀ j, j < x.vers.length → sverE x.vers j = 0) : srvErr x = if 0 ≤ x.now ∧ x.now < x.vers.length ∧ 0 ≤ x.tgt ∧ x.tgt < x.vers.length then 0 else 7 := by
 have g1 := g.1; have g2 := g.2
 unfold srvErr; rw [if_neg (by omega), if_neg (by omega), if_neg (not_not_intro (firstE_zero hz))]
theorem srv_7 (g : srvGo x) (hz : ∀ j, j < x.vers.length → sverE x.vers j = 0) (h : ¬ (0 ≤ x.now ∧ x.now < x.vers.length ∧ 0 ≤ x.tgt ∧ x.tgt < x.vers.length)) : 7 = srvErr x := by rw [srv_end g hz, if_neg h]
theorem srv_0 (g : srvGo x) (hz : ∀ j, j < x.vers.length → sverE x.vers j = 0) (h : 0 ≤ x.now ∧ x.now < x.vers.length ∧ 0 ≤ x.tgt ∧ x.tgt < x.vers.length) : 0 = srvErr x := by rw [srv_end g hz, if_pos h]
theorem fs_1 {l : List SrvD} (h : isNameP (l.getD i nilSv).name = false) : fsrvE l i = 1 := by unfold fsrvE; rw [if_pos h]
theorem fs_d {l : List SrvD} (h : isNameP (l.getD i nilSv).name = true) (hd : dupF (fun k => (l.getD k nilSv).name) i = true) : fsrvE l i = 5 := by unfold fsrvE; rw [if_neg (by rw [h]; decide), if_pos hd]
theorem fs_5 {l : List SrvD} (h : isNameP (l.getD i nilSv).name = true) (hk : k < i) (he : (l.getD k nilSv).name = (l.getD i nilSv).name) : fsrvE l i = 5 := fs_d h (dupF_yes (f := fun k => (l.getD k nilSv).name) hk he)
theorem fs_n {l : List SrvD} (h : isNameP (l.getD i nilSv).name = true) (hd : dupF (fun k => (l.getD k nilSv).name) i = false) : fsrvE l i = srvErr (l.getD i nilSv) := by unfold fsrvE; rw [if_neg (by rw [h]; decide), if_neg (by rw [hd]; decide)]
theorem fs_go {l : List SrvD} (h : isNameP (l.getD i nilSv).name = true) (hd : ∀ k, k < i → ¬ (l.getD k nilSv).name = (l.getD i nilSv).name) : fsrvE l i = srvErr (l.getD i nilSv) := fs_n h (dupF_no (f := fun k => (l.getD k nilSv).name) hd)
theorem dupL_yes {l : List LnkD} (hk : k < i) (h : sameL (l.getD k nilLk) (l.getD i nilLk) = true) : dupL l i = true := by
 unfold dupL; rw [List.any_eq_true]; exact ⟨k, List.mem_range.2 hk, h⟩
theorem dupL_no {l : List LnkD} (h : ∀ k, k < i → sameL (l.getD k nilLk) (l.getD i nilLk) = false) : dupL l i = false := by
 unfold dupL; rw [List.any_eq_false]; intro k hk; rw [h k (List.mem_range.1 hk)]; decide
theorem fl_e {n : Nat} {l : List LnkD} (h : ¬ lnkErr n (l.getD i nilLk) = 0) : flnkE n l i = lnkErr n (l.getD i nilLk) := by unfold flnkE; rw [if_pos h]
theorem fl_5 {n : Nat} {l : List LnkD} (h : lnkErr n (l.getD i nilLk) = 0) (hd : dupL l i = true) : flnkE n l i = 5 := by unfold flnkE; rw [if_neg (not_not_intro h), if_pos hd]
theorem fl_0 {n : Nat} {l : List LnkD} (h : lnkErr n (l.getD i nilLk) = 0) (hd : dupL l i = false) : flnkE n l i = 0 := by unfold flnkE; rw [if_neg (not_not_intro h), if_neg (by rw [hd]; decide)]
theorem kB_n1 {k : Int} {a : Bool} (h : k < 1 ∨ 4 < k) : kindB k a = false := decide_eq_false (by omega)
theorem kB_n2 {k : Int} {a : Bool} (h : a = true) (hk : k = 3 ∨ k = 4) : kindB k a = false := by subst h; exact decide_eq_false (by simp; omega)
theorem kB_a {k : Int} {a : Bool} (h1 : 1 ≤ k) (h4 : k ≤ 4) (h : a = false) : kindB k a = true := by subst h; exact decide_eq_true (by simp; omega)
theorem kB_b {k : Int} {a : Bool} (h : k = 1 ∨ k = 2) : kindB k a = true := decide_eq_true (by omega)
theorem lnk_1 {n : Nat} {t : LnkD} (h : kindB t.kind t.aware = false ∨ isNameP t.name = false) : 1 = lnkErr n t := by unfold lnkErr; rw [if_pos h]
def lnkGo (t : LnkD) : Prop := kindB t.kind t.aware = true ∧ isNameP t.name = true
theorem lnkGo_no {t : LnkD} (g : lnkGo t) : ¬ (kindB t.kind t.aware = false ∨ isNameP t.name = false) := by rw [g.1, g.2]; simp
theorem lnk_4 {n : Nat} {t : LnkD} (g : lnkGo t) (h : ¬ (0 ≤ t.frm ∧ t.frm < n ∧ 0 ≤ t.tto ∧ t.tto < n)) : 4 = lnkErr n t := by unfold lnkErr; rw [if_neg (lnkGo_no g), if_pos h]
theorem lnk_7 {n : Nat} {t : LnkD} (g : lnkGo t) (h : 0 ≤ t.frm ∧ t.frm < n ∧ 0 ≤ t.tto ∧ t.tto < n) (hc : t.kind = 2 ∧ (t.cap < 1 ∨ 3 < t.cap) ∨ ¬ t.kind = 2 ∧ ¬ t.cap = 0) : 7 = lnkErr n t := by
 unfold lnkErr; rw [if_neg (lnkGo_no g), if_neg (not_not_intro h), if_pos (show capB t.kind t.cap = true from decide_eq_true hc)]
theorem lnk_0 {n : Nat} {t : LnkD} (g : lnkGo t) (h : 0 ≤ t.frm ∧ t.frm < n ∧ 0 ≤ t.tto ∧ t.tto < n) (hc : ¬ (t.kind = 2 ∧ (t.cap < 1 ∨ 3 < t.cap) ∨ ¬ t.kind = 2 ∧ ¬ t.cap = 0)) : 0 = lnkErr n t := by
 unfold lnkErr; rw [if_neg (lnkGo_no g), if_neg (not_not_intro h), if_neg (ne_true_of_eq_false (show capB t.kind t.cap = false from decide_eq_false hc))]
theorem same_yes {a b : LnkD} (h1 : a.kind = b.kind) (h2 : a.name = b.name) (h3 : a.frm = b.frm) (h4 : a.tto = b.tto) : sameL a b = true := decide_eq_true ⟨h1, h2, h3, h4⟩
theorem same_no {a b : LnkD} (h : ¬ (a.kind = b.kind ∧ a.name = b.name ∧ a.frm = b.frm ∧ a.tto = b.tto)) : sameL a b = false := decide_eq_false h
section
variable {s : List SrvD} {l : List LnkD}
theorem flt_10 (h : (s.length : Int) = 0) : 10 = fltErr s l := by unfold fltErr; rw [if_pos (by omega)]
theorem flt_3 (h : ¬ (s.length : Int) = 0) (h3 : (6 : Int) < s.length ∨ (12 : Int) < l.length) : 3 = fltErr s l := by unfold fltErr; rw [if_neg (by omega), if_pos (by omega)]
def fltGo (s : List SrvD) (l : List LnkD) : Prop := ¬ (s.length : Int) = 0 ∧ ¬ (6 : Int) < s.length ∧ ¬ (12 : Int) < l.length
theorem flt_sAt (g : fltGo s l) {e : Int} (hi : i < s.length) (hz : ∀ j, j < i → fsrvE s j = 0) (he : fsrvE s i = e) (hne : ¬ e = 0) : e = fltErr s l := by
 have q := firstE_at (i := i) hi hz he hne
 unfold fltGo at g
 unfold fltErr; rw [if_neg (by omega), if_neg (by omega), if_pos (by rw [q]; exact hne), q]
theorem flt_end (g : fltGo s l) (hz : ∀ j, j < s.length → fsrvE s j = 0) : fltErr s l = firstE (flnkE s.length l) l.length := by
 unfold fltGo at g
 unfold fltErr; rw [if_neg (by omega), if_neg (by omega), if_neg (not_not_intro (firstE_zero hz))]
theorem flt_lAt (g : fltGo s l) (hs : ∀ j, j < s.length → fsrvE s j = 0) {e : Int} (hi : i < l.length) (hz : ∀ j, j < i → flnkE s.length l j = 0) (he : flnkE s.length l i = e) (hne : ¬ e = 0) : e = fltErr s l := by
 rw [flt_end g hs]; exact (firstE_at (i := i) hi hz he hne).symm
theorem flt_0 (g : fltGo s l) (hs : ∀ j, j < s.length → fsrvE s j = 0) (hz : ∀ j, j < l.length → flnkE s.length l j = 0) : 0 = fltErr s l := by
 rw [flt_end g hs]; exact (firstE_zero hz).symm
end
end
theorem rsrv_fn (x : SrvD) (h : SmSrv x) : FnSound Tryz.prog 21 [.val true (srvC x)] [] { vals := [(false, [.d (.v (.int .i64 (srvErr x)))])] } := by
 have hl := h.len
 refine startW (tm := [(0, _)]) Tryz.func21 rfl Tryz.ntmps21 rfl rfl rfl rfl ?_
 repeat' (first
 |(with_reducible refine rgn 8 800 ?_ ?_); exact rfl
 |(with_reducible refine rgn 9 900 ?_ ?_); exact rfl
 |(with_reducible refine rgn 10 1000 ?_ ?_); exact rfl
 |(with_reducible refine rgn 11 1100 ?_ ?_); exact rfl
 |(with_reducible refine rgn 12 1200 ?_ ?_); exact rfl
 |(with_reducible refine rgn 14 1300 ?_ ?_); exact rfl
 |(with_reducible refine rgn 15 1400 ?_ ?_); exact rfl
 |(with_reducible refine rgn 13 1500 ?_ ?_); exact rfl
 |(with_reducible refine rgn 7 1600 ?_ ?_); exact rfl
 |(with_reducible refine K_ca 47 ?_); refine zC (rver_fn (x.vers.getD i nilVe) (h.each i (by omega))) ?_
 |(with_reducible refine blk_at (id := 0) ?_); ((with_reducible refine JL.loopW 0 699 (fun (i : Nat) tm => (3, .one false [.d (.v (.int .i64 ((i : Int))))]) :: tm) (fun (i : Nat) bo => bo) (fun (i : Nat) => i ≤ x.vers.length ∧ ∀ j, j < i → sverE x.vers j = 0) (fun (i : Nat) => x.vers.length - i) (0) ?_ (fun i hi => ?_) ?_); (focus (apply SubW [] rfl ?_ ?_ rfl ?_; (repeat' (first | exact kA | refine kB ?_ | refine kC ?_ ?_ | exact kD | fail)))))
 |((with_reducible refine round_next (i := i) (i + 1) ?_ ?_ ?_); (focus (apply SubW [] rfl ?_ ?_ rfl ?_; (repeat' (first | exact kA | refine kB ?_ | refine kC ?_ ?_ | exact kD | fail)))))
 |(with_reducible refine blk_at (id := 2) ?_); ((with_reducible refine JL.loopW 2 1199 (fun (k : Nat) tm => (5, .one false [.d (.v (.int .i64 ((k : Int))))]) :: tm) (fun (k : Nat) bo => bo) (fun (k : Nat) => k ≤ i ∧ ∀ j, j < k → ¬ (x.vers.getD j nilVe).name = (x.vers.getD i nilVe).name) (fun (k : Nat) => i - k) (0) ?_ (fun k hk => ?_) ?_); (focus (apply SubW [] rfl ?_ ?_ rfl ?_; (repeat' (first | exact kA | refine kB ?_ | refine kC ?_ ?_ | exact kD | fail)))))
 |((with_reducible refine round_next (i := k) (k + 1) ?_ ?_ ?_); (focus (apply SubW [] rfl ?_ ?_ rfl ?_; (repeat' (first | exact kA | refine kB ?_ | refine kC ?_ ?_ | exact kD | fail)))))
 |refine wA ?_
 |(refine wC ?_ ?_ <;> intro hc)
 |refine wB ?_ ?_
 |(with_reducible refine JL.block ?_)
 |(with_reducible refine F_at ?_); refine eW (vs := [(_, _)]) Tryz.results21 ?_; (focus (repeat' (first | exact oA | refine oB ?_ | refine oC ?_ ?_ | fail)))
 |exact oM
 |fail)
 all_goals first
  | with_reducible rfl
  | omega
  | exact srv_10 (by assumption)
  | exact srv_3 (by assumption) (by assumption)
  | exact ⟨Nat.zero_le _, fun j hj => absurd hj (Nat.not_lt_zero j)⟩
  | exact ⟨by omega, lt_next hk.2 hc⟩
  | exact srv_at (i := i) ⟨by omega, by omega⟩ (by omega) hi.2 (sver_e hc) hc
  | exact srv_at (i := i) ⟨by omega, by omega⟩ (by omega) hi.2 (sver_5 (k := k) (by assumption) (by omega) hc) (by decide)
  | exact ⟨by omega, lt_next hi.2 (sver_0 (by assumption) (fun j hj => hk.2 j (by omega)))⟩
  | exact srv_7 ⟨by omega, by omega⟩ (fun j hj => hi.2 j (by omega)) (by omega)
  | exact srv_0 ⟨by omega, by omega⟩ (fun j hj => hi.2 j (by omega)) (by omega)
  | trace_state
theorem rlink_fn (s : List SrvD) (l : List LnkD) (t : LnkD) (hs : s.length ≤ 5900000000000) : FnSound Tryz.prog 22 [.val true (fltC s l), .val true (lnkC t)] [] { vals := [(false, [.d (.v (.int .i64 (lnkErr s.length t)))])] } := by
 refine startW (tm := [(0, _), (1, _)]) Tryz.func22 rfl Tryz.ntmps22 rfl rfl rfl rfl ?_
 repeat' (first
 |(with_reducible refine K_ca 20 ?_); refine zC (rname_fn _) ?_
 |refine wA ?_
 |(refine wC ?_ ?_ <;> intro hc)
 |refine wB ?_ ?_
 |(with_reducible refine JL.block ?_)
 |(with_reducible refine F_at ?_); refine eW (vs := [(_, _)]) Tryz.results22 ?_; (focus (repeat' (first | exact oA | refine oB ?_ | refine oC ?_ ?_ | fail)))
 |exact oM
 |fail)
 all_goals first
  | with_reducible rfl
  | exact lnk_1 (.inl (kB_n1 (by omega)))
  | exact lnk_1 (.inr (nt hc))
  | exact lnk_1 (.inl (kB_n2 (by assumption) (by omega)))
  | (have g : lnkGo t := by
       first
        | exact ⟨kB_a (by omega) (by omega) (by assumption), nf (by assumption)⟩
        | exact ⟨kB_b (by omega), nf (by assumption)⟩
     first
      | exact lnk_4 g (by omega)
      | exact lnk_7 g (by omega) (by omega)
      | exact lnk_0 g (by omega) (by omega))
  | trace_state
theorem rfvalid_fn (s : List SrvD) (l : List LnkD) (h : SmF s l) : FnSound Tryz.prog 7 [.val true (fltC s l)] [] { vals := [(false, [.d (.v (.int .i64 (fltErr s l)))])] } := by
 have hs := h.srvs
 have hl := h.lnks
 refine startW (tm := [(0, _)]) Tryz.func7 rfl Tryz.ntmps7 rfl rfl rfl rfl ?_
 repeat' (first
 |(with_reducible refine rgn 8 800 ?_ ?_); exact rfl
 |(with_reducible refine rgn 9 900 ?_ ?_); exact rfl
 |(with_reducible refine rgn 10 1000 ?_ ?_); exact rfl
 |(with_reducible refine rgn 11 1100 ?_ ?_); exact rfl
 |(with_reducible refine rgn 13 1200 ?_ ?_); exact rfl
 |(with_reducible refine rgn 14 1300 ?_ ?_); exact rfl
 |(with_reducible refine rgn 12 1400 ?_ ?_); exact rfl
 |(with_reducible refine rgn 15 1500 ?_ ?_); exact rfl
 |(with_reducible refine rgn 16 1600 ?_ ?_); exact rfl
 |(with_reducible refine rgn 17 1700 ?_ ?_); exact rfl
 |(with_reducible refine rgn 7 1800 ?_ ?_); exact rfl
 |(with_reducible refine rgn 21 2100 ?_ ?_); exact rfl
 |(with_reducible refine rgn 22 2200 ?_ ?_); exact rfl
 |(with_reducible refine rgn 23 2300 ?_ ?_); exact rfl
 |(with_reducible refine rgn 24 2400 ?_ ?_); exact rfl
 |(with_reducible refine rgn 25 2500 ?_ ?_); exact rfl
 |(with_reducible refine rgn 26 2600 ?_ ?_); exact rfl
 |(with_reducible refine rgn 28 2700 ?_ ?_); exact rfl
 |(with_reducible refine rgn 29 2800 ?_ ?_); exact rfl
 |(with_reducible refine rgn 30 2900 ?_ ?_); exact rfl
 |(with_reducible refine rgn 27 3000 ?_ ?_); exact rfl
 |(with_reducible refine rgn 20 3100 ?_ ?_); exact rfl
 |(with_reducible refine K_ca 20 ?_); refine zC (rname_fn _) ?_
 |(with_reducible refine K_ca 21 ?_); refine zC (rsrv_fn (s.getD i nilSv) (h.each i (by omega))) ?_
 |(with_reducible refine K_ca 22 ?_); refine zC (rlink_fn s l _ hs) ?_
 |(with_reducible refine blk_at (id := 0) ?_); ((with_reducible refine JL.loopW 0 699 (fun (i : Nat) tm => (3, .one false [.d (.v (.int .i64 ((i : Int))))]) :: tm) (fun (i : Nat) bo => bo) (fun (i : Nat) => i ≤ s.length ∧ ∀ j, j < i → fsrvE s j = 0) (fun (i : Nat) => s.length - i) (0) ?_ (fun i hi => ?_) ?_); (focus (apply SubW [] rfl ?_ ?_ rfl ?_; (repeat' (first | exact kA | refine kB ?_ | refine kC ?_ ?_ | exact kD | fail)))))
 |((with_reducible refine round_next (i := i) (i + 1) ?_ ?_ ?_); (focus (apply SubW [] rfl ?_ ?_ rfl ?_; (repeat' (first | exact kA | refine kB ?_ | refine kC ?_ ?_ | exact kD | fail)))))
 |(with_reducible refine blk_at (id := 2) ?_); ((with_reducible refine JL.loopW 2 1099 (fun (k : Nat) tm => (4, .one false [.d (.v (.int .i64 ((k : Int))))]) :: tm) (fun (k : Nat) bo => bo) (fun (k : Nat) => k ≤ i ∧ ∀ j, j < k → ¬ (s.getD j nilSv).name = (s.getD i nilSv).name) (fun (k : Nat) => i - k) (0) ?_ (fun k hk => ?_) ?_); (focus (apply SubW [] rfl ?_ ?_ rfl ?_; (repeat' (first | exact kA | refine kB ?_ | refine kC ?_ ?_ | exact kD | fail)))))
 |((with_reducible refine round_next (i := k) (k + 1) ?_ ?_ ?_); (focus (apply SubW [] rfl ?_ ?_ rfl ?_; (repeat' (first | exact kA | refine kB ?_ | refine kC ?_ ?_ | exact kD | fail)))))
 |(with_reducible refine blk_at (id := 4) ?_); ((with_reducible refine JL.loopW 4 1999 (fun (u : Nat) tm => (6, .one false [.d (.v (.int .i64 ((u : Int))))]) :: tm) (fun (u : Nat) bo => bo) (fun (u : Nat) => u ≤ l.length ∧ ∀ j, j < u → flnkE s.length l j = 0) (fun (u : Nat) => l.length - u) (0) ?_ (fun u hu => ?_) ?_); (focus (apply SubW [] rfl ?_ ?_ rfl ?_; (repeat' (first | exact kA | refine kB ?_ | refine kC ?_ ?_ | exact kD | fail)))))
 |((with_reducible refine round_next (i := u) (u + 1) ?_ ?_ ?_); (focus (apply SubW [] rfl ?_ ?_ rfl ?_; (repeat' (first | exact kA | refine kB ?_ | refine kC ?_ ?_ | exact kD | fail)))))
 |(with_reducible refine blk_at (id := 6) ?_); ((with_reducible refine JL.loopW 6 2599 (fun (q : Nat) tm => (9, .one false [.d (.v (.int .i64 ((q : Int))))]) :: tm) (fun (q : Nat) bo => bo) (fun (q : Nat) => q ≤ u ∧ ∀ j, j < q → sameL (l.getD j nilLk) (l.getD u nilLk) = false) (fun (q : Nat) => u - q) (0) ?_ (fun q hq => ?_) ?_); (focus (apply SubW [] rfl ?_ ?_ rfl ?_; (repeat' (first | exact kA | refine kB ?_ | refine kC ?_ ?_ | exact kD | fail)))))
 |((with_reducible refine round_next (i := q) (q + 1) ?_ ?_ ?_); (focus (apply SubW [] rfl ?_ ?_ rfl ?_; (repeat' (first | exact kA | refine kB ?_ | refine kC ?_ ?_ | exact kD | fail)))))
 |refine wA ?_
 |(refine wC ?_ ?_ <;> intro hc)
 |refine wB ?_ ?_
 |(with_reducible refine JL.block ?_)
 |(with_reducible refine F_at ?_); refine eW (vs := [(_, _)]) Tryz.results7 ?_; (focus (repeat' (first | exact oA | refine oB ?_ | refine oC ?_ ?_ | fail)))
 |exact oM
 |fail)
 all_goals first
  | with_reducible rfl
  | omega
  | exact flt_10 (by assumption)
  | exact flt_3 (by assumption) (by omega)
  | exact ⟨Nat.zero_le _, fun j hj => absurd hj (Nat.not_lt_zero j)⟩
  | exact ⟨by omega, lt_next hk.2 hc⟩
  | exact flt_sAt (i := i) ⟨by omega, by omega, by omega⟩ (by omega) hi.2 (fs_1 (nt hc)) (by decide)
  | exact flt_sAt (i := i) ⟨by omega, by omega, by omega⟩ (by omega) hi.2 (fs_5 (k := k) (nf (by assumption)) (by omega) hc) (by decide)
  | exact flt_sAt (i := i) ⟨by omega, by omega, by omega⟩ (by omega) hi.2 (fs_go (nf (by assumption)) (fun j hj => hk.2 j (by omega))) hc
  | exact ⟨by omega, lt_next hi.2 ((fs_go (nf (by assumption)) (fun j hj => hk.2 j (by omega))).trans hc)⟩
  | exact flt_lAt (i := u) ⟨by omega, by omega, by omega⟩ (fun j hj => hi.2 j (by omega)) (by omega) hu.2 (fl_e hc) hc
  | exact flt_lAt (i := u) ⟨by omega, by omega, by omega⟩ (fun j hj => hi.2 j (by omega)) (by omega) hu.2 (fl_5 (by assumption) (dupL_yes (k := q) (by omega) (same_yes (by assumption) (by assumption) (by assumption) (by assumption)))) (by decide)
  | exact ⟨by omega, lt_next hu.2 (fl_0 (by assumption) (dupL_no (fun j hj => hq.2 j (by omega))))⟩
  | exact ⟨by omega, lt_next hq.2 (same_no (fun a => by simp_all))⟩
  | exact flt_0 ⟨by omega, by omega, by omega⟩ (fun j hj => hi.2 j (by omega)) (fun j hj => hu.2 j (by omega))
  | trace_state
noncomputable def fB (v : VerD) : Bool := open Classical in if h : smTs v.types then Classical.choose (few32_ex v h) else false
theorem fB_fn (v : VerD) (h : smTs v.types) : FnSound Tryz.prog 14 [.val true (verC v)] [] { vals := [(false, [.d (.v (.bool (fB v)))])] } := by
 unfold fB; rw [dif_pos h]; exact Classical.choose_spec (few32_ex v h)
noncomputable def smallS (x : SrvD) : Bool := decide (x.vers.length ≤ 8) && x.vers.all fB
noncomputable def smallF (s : List SrvD) (l : List LnkD) : Bool := decide (s.length ≤ 8 ∧ l.length ≤ 14) && s.all smallS
theorem rsmall_fn (s : List SrvD) (l : List LnkD) (h : SmF s l) : FnSound Tryz.prog 5 [.val true (fltC s l)] [] { vals := [(false, [.d (.v (.bool (smallF s l)))])] } := by
 have hs := h.srvs
 have hl := h.lnks
 have hv := fun i (hi : i < s.length) => (h.each i hi).len
 refine startW (tm := [(0, _)]) Tryz.func5 rfl Tryz.ntmps5 rfl rfl rfl rfl ?_
 repeat' (first
 |(with_reducible refine rgn 6 600 ?_ ?_); exact rfl
 |(with_reducible refine rgn 7 700 ?_ ?_); exact rfl
 |(with_reducible refine rgn 8 800 ?_ ?_); exact rfl
 |(with_reducible refine rgn 9 900 ?_ ?_); exact rfl
 |(with_reducible refine rgn 11 1000 ?_ ?_); exact rfl
 |(with_reducible refine rgn 12 1100 ?_ ?_); exact rfl
 |(with_reducible refine rgn 10 1200 ?_ ?_); exact rfl
 |(with_reducible refine rgn 5 1300 ?_ ?_); exact rfl
 |(with_reducible refine K_ca 14 ?_); (first
 |refine W.call0A rfl BoC.h (fB_fn _ ((h.each i (by omega)).each k (by omega)).types) rfl rfl rfl ?_
 |refine W.call1A rfl BoC.h (fB_fn _ ((h.each i (by omega)).each k (by omega)).types) rfl rfl rfl rfl rfl ?_)
 |(with_reducible refine blk_at (id := 0) ?_); ((with_reducible refine JL.loopW 0 499 (fun (i : Nat) tm => (3, .one false [.d (.v (.int .i64 ((i : Int))))]) :: tm) (fun (i : Nat) bo => bo) (fun (i : Nat) => i ≤ s.length ∧ ∀ j, j < i → smallS (s.getD j nilSv) = true) (fun (i : Nat) => s.length - i) (0) ?_ (fun i hi => have hvi := hv i; ?_) ?_); (focus (apply SubW [] rfl ?_ ?_ rfl ?_; (repeat' (first | exact kA | refine kB ?_ | refine kC ?_ ?_ | exact kD | fail)))))
 |((with_reducible refine round_next (i := i) (i + 1) ?_ ?_ ?_); (focus (apply SubW [] rfl ?_ ?_ rfl ?_; (repeat' (first | exact kA | refine kB ?_ | refine kC ?_ ?_ | exact kD | fail)))))
 |(with_reducible refine blk_at (id := 2) ?_); ((with_reducible refine JL.loopW 2 899 (fun (k : Nat) tm => (4, .one false [.d (.v (.int .i64 ((k : Int))))]) :: tm) (fun (k : Nat) bo => bo) (fun (k : Nat) => k ≤ (s.getD i nilSv).vers.length ∧ ∀ j, j < k → fB ((s.getD i nilSv).vers.getD j nilVe) = true) (fun (k : Nat) => (s.getD i nilSv).vers.length - k) (0) ?_ (fun k hk => ?_) ?_); (focus (apply SubW [] rfl ?_ ?_ rfl ?_; (repeat' (first | exact kA | refine kB ?_ | refine kC ?_ ?_ | exact kD | fail)))))
 |((with_reducible refine round_next (i := k) (k + 1) ?_ ?_ ?_); (focus (apply SubW [] rfl ?_ ?_ rfl ?_; (repeat' (first | exact kA | refine kB ?_ | refine kC ?_ ?_ | exact kD | fail)))))
 |refine wA ?_
 |(refine wC ?_ ?_ <;> intro hc)
 |refine wB ?_ ?_
 |(with_reducible refine JL.block ?_)
 |(with_reducible refine F_at ?_); refine eW (vs := [(_, _)]) Tryz.results5 ?_; (focus (repeat' (first | exact oA | refine oB ?_ | refine oC ?_ ?_ | fail)))
 |exact oM
 |fail)
 all_goals first
  | with_reducible rfl
  | omega
  | exact ⟨Nat.zero_le _, fun j hj => absurd hj (Nat.not_lt_zero j)⟩
  | (unfold smallF; rw [decide_eq_false (by omega)]; rfl)
  | (unfold smallF; rw [all_no (j := i) (d := nilSv) (by omega) (by unfold smallS; rw [decide_eq_false (by omega)]; rfl)]; simp; done)
  | (unfold smallF; rw [all_no (j := i) (d := nilSv) (by omega) (by unfold smallS; rw [all_no (j := k) (d := nilVe) (by omega) (nt hc)]; simp)]; simp; done)
  | exact ⟨by omega, lt_next hk.2 (nf hc)⟩
  | (refine ⟨by omega, lt_next hi.2 ?_⟩; unfold smallS; rw [decide_eq_true (by omega), all_yes (d := nilVe) (fun j hj => hk.2 j (by omega))]; rfl)
  | (unfold smallF; rw [decide_eq_true (by omega), all_yes (d := nilSv) (fun j hj => hi.2 j (by omega))]; rfl)
  | trace_state
end Go.Proofs.YtjpdemikmdfonaaGreatDoor

