/- Rules of runs and contracts of functions, for the claims of one seat. -/
import Derived.Test.YtjpdemikmdfonaaGreatDoorFA15
import Derived.Test.YtjpdemikmdfonaaGreatDoorFA19
import Derived.Test.YtjpdemikmdfonaaGreatDoorFA35
namespace Go.Proofs.YtjpdemikmdfonaaGreatDoor
open Go Go.RowKit
set_option maxRecDepth 100000
set_option maxHeartbeats 8000000
set_option linter.unusedSimpArgs false
set_option linter.unusedVariables false
section
variable {n i : Nat}
theorem any_dup {α : Type} {l : List α} {g : α → ByteArray} {z : α} (hi : i ≤ l.length) : ((l.take i).any fun x => decide (g x = g (l.getD i z))) = dupF (fun k => g (l.getD k z)) i := by
 unfold dupF
 rw [Bool.eq_iff_iff, List.any_eq_true, List.any_eq_true]
 constructor
 ·rintro ⟨x, hx, h⟩
  obtain ⟨k, hk, rfl⟩ := List.getElem_of_mem hx
  rw [List.length_take] at hk
  refine ⟨k, List.mem_range.2 (by omega), ?_⟩
  rw [List.getElem_take] at h
  show decide (g (l.getD k z) = _) = true
  rw [List.getD_eq_getElem?_getD, List.getElem?_eq_getElem (by omega)]
  exact h
 ·rintro ⟨k, hk, h⟩
  have hk := List.mem_range.1 hk
  refine ⟨l.getD k z, ?_, h⟩
  rw [List.getD_eq_getElem?_getD, List.getElem?_eq_getElem (by omega)]
  exact List.mem_take_iff_getElem.2 ⟨k, by omega, rfl⟩
theorem hasN_dup {α : Type} {l : List α} {g : α → ByteArray} {z : α} (hi : i ≤ l.length) : hasN ((l.take i).map g) (g (l.getD i z)) = dupF (fun k => g (l.getD k z)) i := by
 rw [← any_dup hi]
 unfold hasN
 rw [List.any_map]
 congr 1
 funext x
 exact decide_eq_decide.2 eq_comm
theorem addN_next {α : Type} {l : List α} {g : α → ByteArray} {z : α} (hi : i < l.length) (h : addE ((l.take i).map g) (g (l.getD i z)) = 0) : addN ((l.take i).map g) (g (l.getD i z)) = (l.take (i + 1)).map g := by
 unfold addN
 rw [if_pos h, List.take_add_one, List.map_append, List.getD_eq_getElem?_getD, List.getElem?_eq_getElem hi]
 rfl
theorem call_add {l : List CallD} (hi : i ≤ l.length) : callErr n l i = if addE ((l.take i).map (·.name)) (l.getD i nilCa).name = 0 then (if outT n (l.getD i nilCa).req = true ∨ outT n (l.getD i nilCa).rep = true then 4 else 0) else addE ((l.take i).map (·.name)) (l.getD i nilCa).name := by
 have h := hasN_dup (g := fun x : CallD => x.name) (z := nilCa) hi
 unfold callErr addE
 rw [h]
 by_cases h1 : isNameP (l.getD i nilCa).name = false
 ·rw [if_pos h1, if_pos h1]; rfl
 ·rw [if_neg h1, if_neg h1]
  by_cases h2 : dupF (fun k => (l.getD k nilCa).name) i = true
  ·rw [if_pos h2, if_pos h2]; rfl
  ·rw [if_neg h2, if_neg h2]; rfl
theorem top_add {l : List TopD} (hi : i ≤ l.length) : topErr n l i = if addE ((l.take i).map (·.name)) (l.getD i nilTo).name = 0 then (if outT n (l.getD i nilTo).typ = true then 4 else 0) else addE ((l.take i).map (·.name)) (l.getD i nilTo).name := by
 have h := hasN_dup (g := fun x : TopD => x.name) (z := nilTo) hi
 unfold topErr addE
 rw [h]
 by_cases h1 : isNameP (l.getD i nilTo).name = false
 ·rw [if_pos h1, if_pos h1]; rfl
 ·rw [if_neg h1, if_neg h1]
  by_cases h2 : dupF (fun k => (l.getD k nilTo).name) i = true
  ·rw [if_pos h2, if_pos h2]; rfl
  ·rw [if_neg h2, if_neg h2]; rfl
theorem sess_any {l : List SesD} (hi : i ≤ l.length) : sessErr n l i = if ((l.take i).any fun x => decide (x.name = (l.getD i nilSe).name)) = true then 5 else sesErr n (l.getD i nilSe) := by
 have h := any_dup (g := fun x : SesD => x.name) (z := nilSe) hi
 unfold sessErr
 rw [h]
end
section
variable {v : VerD}
theorem ver_cAt (g : verGo v) (h : isNameP v.name = true) (hs : soundErr v.types = 0) {i : Nat} {e : Int} (hi : i < v.calls.length) (hz : ∀ j, j < i → callErr v.types.length v.calls j = 0) (he : callErr v.types.length v.calls i = e) (hne : ¬ e = 0) : e = verErr v := by
 have q := firstE_at (i := i) hi hz he hne
 exact q.symm.trans (ver_c g h hs (by rw [q]; exact hne))
theorem ver_xAt (g : verGo v) (h : isNameP v.name = true) (hs : soundErr v.types = 0) (hcz : ∀ j, j < v.calls.length → callErr v.types.length v.calls j = 0) {i : Nat} {e : Int} (hi : i < v.sess.length) (hz : ∀ j, j < i → sessErr v.types.length v.sess j = 0) (he : sessErr v.types.length v.sess i = e) (hne : ¬ e = 0) : e = verErr v := by
 have q := firstE_at (i := i) hi hz he hne
 exact q.symm.trans (ver_x g h hs (firstE_zero hcz) (by rw [q]; exact hne))
theorem ver_tAt (g : verGo v) (h : isNameP v.name = true) (hs : soundErr v.types = 0) (hcz : ∀ j, j < v.calls.length → callErr v.types.length v.calls j = 0) (hxz : ∀ j, j < v.sess.length → sessErr v.types.length v.sess j = 0) {i : Nat} {e : Int} (hi : i < v.tops.length) (hz : ∀ j, j < i → topErr v.types.length v.tops j = 0) (he : topErr v.types.length v.tops i = e) (hne : ¬ e = 0) : e = verErr v := by
 have q := firstE_at (i := i) hi hz he hne
 exact q.symm.trans (ver_t g h hs (firstE_zero hcz) (firstE_zero hxz))
theorem ver_end (g : verGo v) (h : isNameP v.name = true) (hs : soundErr v.types = 0) (hcz : ∀ j, j < v.calls.length → callErr v.types.length v.calls j = 0) (hxz : ∀ j, j < v.sess.length → sessErr v.types.length v.sess j = 0) (htz : ∀ j, j < v.tops.length → topErr v.types.length v.tops j = 0) : 0 = verErr v :=
 (firstE_zero htz).symm.trans (ver_t g h hs (firstE_zero hcz) (firstE_zero hxz))
theorem out_yes {n : Nat} {u : Int} (h : u < 0 ∨ (n : Int) ≤ u) : outT n u = true := decide_eq_true h
theorem out_no {n : Nat} {u : Int} (h : ¬ (u < 0 ∨ (n : Int) ≤ u)) : ¬ outT n u = true := fun a => h (of_decide_eq_true a)
end
theorem pver_fn (v : VerD) (hv : SmV v) : FnSound Tryz.prog 42 [.val true (verC v)] [] { vals := [(false, [.d (.v (.int .i64 (verErr v)))])] } := by
 have hl := hv.types.1
 have hcl := hv.calls
 have htl := hv.tops
 have hsl := hv.sess
 have hlt := fun i => List.length_take (i := i) (l := v.calls)
 have hmt := fun i => @List.length_map _ _ (v.calls.take i) (fun x : CallD => x.name)
 have hlu := fun i => List.length_take (i := i) (l := v.tops)
 have hmu := fun i => @List.length_map _ _ (v.tops.take i) (fun x : TopD => x.name)
 have hls := fun i => List.length_take (i := i) (l := v.sess)
 refine startW (tm := [(0, _)]) Tryz.func42 rfl Tryz.ntmps42 rfl rfl rfl rfl ?_
 repeat' (first
 |(with_reducible refine rgL (fun g => g == 60) ?_ ?_); exact rfl
 |(with_reducible refine K_ca 15 ?_); refine zC (pname_fn _) ?_
 |(with_reducible refine K_ca 57 ?_); refine zC (psound_fn v.types hv.types) ?_
 |(with_reducible refine K_ca 59 ?_); (first
 |refine zI (padd_fn ((v.calls.take i).map (·.name)) (v.calls.getD i nilCa).name (by have := hlt i; have := hmt i; omega)) ?_
 |refine zI (padd_fn ((v.tops.take u).map (·.name)) (v.tops.getD u nilTo).name (by have := hlu u; have := hmu u; omega)) ?_)
 |(with_reducible refine K_ca 60 ?_); refine zC (psesC_fn (v.sess.take k) (v.sess.getD k nilSe) (by have := hls k; omega)) ?_
 |(with_reducible refine K_ca 62 ?_); refine zC (pses_fn v.types (v.sess.getD k nilSe) hv.types (sound_sch (by omega)) (hv.each k (by omega))) ?_
 |(with_reducible refine W_at ?_); (first
 |(refine W.mkfn rfl rfl ?_)
 |(refine W.callC rfl bo_miss rfl rfl rfl (pmiss_fn v _) rfl rfl ?_))
 |(with_reducible refine blk_at (id := 0) ?_); (try (refine JL.zeroBW (cs2 := [_]) (128, 1000) 0 _ 9 1 rfl rfl rfl rfl ?_)); (refine JL.rekBW (cs2 := [_]) (128, 1000) 0 (1080, 1151) rfl rfl rfl rfl rfl rfl ?_); ((with_reducible refine JL.loopW 0 1199 (fun (i : Nat) tm => (48, .one false [.d (.v (.int .i64 ((i : Int))))]) :: tm) (fun (i : Nat) bo => ((128, 1000), some (.st 125 [.own (1080, 1151)])) :: ((1080, 1151), some (.sl 9 1 ((dStrs ((v.calls.take i).map (·.name)))))) :: bo) (fun (i : Nat) => i ≤ v.calls.length ∧ ∀ j, j < i → callErr v.types.length v.calls j = 0) (fun (i : Nat) => v.calls.length - i) (0) ?_ (fun i hi => ?_) ?_); (focus (apply SubW [((1080, 1151), _)] rfl ?_ ?_ rfl ?_; (repeat' (first | exact kA | refine kB ?_ | refine kC ?_ ?_ | exact kD | fail)))))
 |((with_reducible refine round_next (i := i) (i + 1) ?_ ?_ ?_); (focus (apply SubW [((1080, 1151), _)] rfl ?_ ?_ rfl ?_; (repeat' (first | exact kA | refine kB ?_ | refine kC ?_ ?_ | exact kD | fail)))))
 |(with_reducible refine blk_at (id := 2) ?_); ((with_reducible refine JL.loopW 2 2099 (fun (k : Nat) tm => (72, .one false [.d (.v (.int .i64 ((k : Int))))]) :: tm) (fun (k : Nat) bo => bo) (fun (k : Nat) => k ≤ v.sess.length ∧ ∀ j, j < k → sessErr v.types.length v.sess j = 0) (fun (k : Nat) => v.sess.length - k) (0) ?_ (fun k hk => ?_) ?_); (focus (apply SubW [] rfl ?_ ?_ rfl ?_; (repeat' (first | exact kA | refine kB ?_ | refine kC ?_ ?_ | exact kD | fail)))))
 |((with_reducible refine round_next (i := k) (k + 1) ?_ ?_ ?_); (focus (apply SubW [] rfl ?_ ?_ rfl ?_; (repeat' (first | exact kA | refine kB ?_ | refine kC ?_ ?_ | exact kD | fail)))))
 |(with_reducible refine blk_at (id := 4) ?_); (try (refine JL.zeroBW (cs2 := [_]) (192, 1000) 0 _ 9 1 rfl rfl rfl rfl ?_)); (refine JL.rekBW (cs2 := [_]) (192, 1000) 0 (1096, 2951) rfl rfl rfl rfl rfl rfl ?_); ((with_reducible refine JL.loopW 4 2999 (fun (u : Nat) tm => (94, .one false [.d (.v (.int .i64 ((u : Int))))]) :: tm) (fun (u : Nat) bo => ((192, 1000), some (.st 125 [.own (1096, 2951)])) :: ((1096, 2951), some (.sl 9 1 ((dStrs ((v.tops.take u).map (·.name)))))) :: bo) (fun (u : Nat) => u ≤ v.tops.length ∧ ∀ j, j < u → topErr v.types.length v.tops j = 0) (fun (u : Nat) => v.tops.length - u) (0) ?_ (fun u hu => ?_) ?_); (focus (apply SubW [((1096, 2951), _)] rfl ?_ ?_ rfl ?_; (repeat' (first | exact kA | refine kB ?_ | refine kC ?_ ?_ | exact kD | fail)))))
 |((with_reducible refine round_next (i := u) (u + 1) ?_ ?_ ?_); (focus (apply SubW [((1096, 2951), _)] rfl ?_ ?_ rfl ?_; (repeat' (first | exact kA | refine kB ?_ | refine kC ?_ ?_ | exact kD | fail)))))
 |refine wA ?_
 |(refine wC ?_ ?_ <;> intro hc)
 |refine wB ?_ ?_
 |(with_reducible refine JL.block ?_)
 |(with_reducible refine F_at ?_); refine eW (vs := [(_, _)]) Tryz.results42 ?_; (focus (repeat' (first | exact oA | refine oB ?_ | refine oC ?_ ?_ | fail)))
 |exact oM
 |fail)
 all_goals first
  | with_reducible rfl
  | exact ver_3 (by omega)
  | exact ver_1 ⟨by omega, by omega, by omega⟩ (nt hc)
  | exact ver_s ⟨by omega, by omega, by omega⟩ (nf (by assumption)) hc
  | exact ⟨Nat.zero_le _, fun j hj => absurd hj (Nat.not_lt_zero j)⟩
  | (rw [List.take_zero]; rfl)
  | exact ver_end ⟨by omega, by omega, by omega⟩ (nf (by assumption)) (by assumption) (fun j hj => hi.2 j (by omega)) (fun j hj => hk.2 j (by omega)) (fun j hj => hu.2 j (by omega))
  | exact ver_cAt (i := i) ⟨by omega, by omega, by omega⟩ (nf (by assumption)) (by assumption) (by omega) hi.2 ((call_add (by omega)).trans (if_neg hc)) hc
  | (refine ver_cAt (i := i) ⟨by omega, by omega, by omega⟩ (nf (by assumption)) (by assumption) (by omega) hi.2 ((call_add (by omega)).trans ((if_pos (by assumption)).trans (if_pos (.inl (out_yes ?_))))) (by decide); exact hc)
  | (refine ver_cAt (i := i) ⟨by omega, by omega, by omega⟩ (nf (by assumption)) (by assumption) (by omega) hi.2 ((call_add (by omega)).trans ((if_pos (by assumption)).trans (if_pos (.inr (out_yes ?_))))) (by decide); exact hc)
  | exact ⟨by omega, lt_next hi.2 ((call_add (by omega)).trans ((if_pos (by assumption)).trans (if_neg (fun a => a.elim (out_no (by assumption)) (out_no hc)))))⟩
  | exact ver_xAt (i := k) ⟨by omega, by omega, by omega⟩ (nf (by assumption)) (by assumption) (fun j hj => hi.2 j (by omega)) (by omega) hk.2 ((sess_any (by omega)).trans (if_pos hc)) (by decide)
  | exact ver_xAt (i := k) ⟨by omega, by omega, by omega⟩ (nf (by assumption)) (by assumption) (fun j hj => hi.2 j (by omega)) (by omega) hk.2 ((sess_any (by omega)).trans (if_neg (ne_true_of_eq_false (by assumption)))) hc
  | exact ⟨by omega, lt_next hk.2 (((sess_any (by omega)).trans (if_neg (ne_true_of_eq_false (by assumption)))).trans hc)⟩
  | exact ver_tAt (i := u) ⟨by omega, by omega, by omega⟩ (nf (by assumption)) (by assumption) (fun j hj => hi.2 j (by omega)) (fun j hj => hk.2 j (by omega)) (by omega) hu.2 ((top_add (by omega)).trans (if_neg hc)) hc
  | exact ver_tAt (i := u) ⟨by omega, by omega, by omega⟩ (nf (by assumption)) (by assumption) (fun j hj => hi.2 j (by omega)) (fun j hj => hk.2 j (by omega)) (by omega) hu.2 ((top_add (by omega)).trans ((if_pos (by assumption)).trans (if_pos (out_yes hc)))) (by decide)
  | exact ⟨by omega, lt_next hu.2 ((top_add (by omega)).trans ((if_pos (by assumption)).trans (if_neg (out_no hc))))⟩
  | (rw [← addN_next (g := fun x : CallD => x.name) (z := nilCa) (by omega) (by assumption)]; rfl)
  | (rw [← addN_next (g := fun x : TopD => x.name) (z := nilTo) (by omega) (by assumption)]; rfl)
  | trace_state
end Go.Proofs.YtjpdemikmdfonaaGreatDoor

