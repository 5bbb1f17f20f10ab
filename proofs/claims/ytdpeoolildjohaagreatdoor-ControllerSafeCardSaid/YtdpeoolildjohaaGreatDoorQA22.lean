/- Rules of runs and contracts of functions, for the claims of one seat. -/
import Derived.Test.YtdpeoolildjohaaGreatDoorQA14
import Derived.Test.YtdpeoolildjohaaGreatDoorQA15
import Derived.Test.YtdpeoolildjohaaGreatDoorQA17
import Derived.Test.YtdpeoolildjohaaGreatDoorQA19
import Derived.Test.YtdpeoolildjohaaGreatDoorQA21
namespace Go.Proofs.YtdpeoolildjohaaGreatDoor
open Go Go.RowKit
set_option maxRecDepth 100000
set_option maxHeartbeats 8000000
set_option linter.unusedSimpArgs false
set_option linter.unusedVariables false
theorem pblame_fn (p : Prob) (m : MixD) (hu : u8s m.held) : FnSound Tryz.prog 114 [.val true (probC p), .val true (mixC m)] [] { vals := [(true, mixC (blameP p m).1), (true, confC (blameP p m).2.1), (false, [.d (.v (.int .i64 (blameP p m).2.2))])] } := by
 by_cases h : mixErr p m = 0
 ·have hm := mixIn_of h
  have hal := allP_few (m := m) hm.few.ln
  have hin : ∀ k, MixIn p ((allP m).getD k nilM) ∨ ¬ k < (allP m).length := fun k => by
   by_cases hk : k < (allP m).length
   ·left; rw [allP_get hk]; exact abM_in hm k
   ·exact .inr hk
  have e : blameP p m = blameL p (allP m) := by unfold blameP; rw [if_neg (by simpa using h)]
  rw [e]
  refine startW (tm := [(0, _), (1, _)]) Tryz.func114 rfl Tryz.ntmps114 rfl rfl rfl rfl ?_
  repeat' (first
 |(with_reducible refine K_ca 136 ?_); refine zC (paborts_fn p m hu h) ?_
 |(with_reducible refine K_ca 137 ?_); refine zC (conf_fn p ((allP m).getD k nilM) ((hin k).resolve_right (by omega))) ?_
 |(with_reducible refine blk_at (id := 0) ?_); ((with_reducible refine JL.loopW 0 599 (fun (k : Nat) tm => (25, .one false [.d (.v (.int .i64 ((k : Int))))]) :: tm) (fun (k : Nat) bo => bo) (fun (k : Nat) => k ≤ (allP m).length ∧ ∀ j, j < k → foundP p ((allP m).getD j nilM) = []) (fun (k : Nat) => (allP m).length - k) (0) ?_ (fun k hk => ?_) ?_); (focus (apply SubW [] rfl ?_ ?_ rfl ?_; (repeat' (first | exact kA | refine kB ?_ | refine kC ?_ ?_ | exact kD | fail)))))
 |((with_reducible refine round_next (i := k) (k + 1) ?_ ?_ ?_); (focus (apply SubW [] rfl ?_ ?_ rfl ?_; (repeat' (first | exact kA | refine kB ?_ | refine kC ?_ ?_ | exact kD | fail)))))
 |refine wA ?_
 |(refine wC ?_ ?_ <;> intro hc)
 |refine wB ?_ ?_
 |(with_reducible refine JL.block ?_)
 |(with_reducible refine F_at ?_); refine eW (vs := [(_, _), (_, _), (_, _)]) Tryz.results114 ?_; (focus (repeat' (first | exact oA | refine oB ?_ | refine oC ?_ ?_ | fail)))
 |exact oM
 |fail)
  all_goals first
   | (have hb := blameL_at (l := allP m) (k := k) (by omega) hk.2 (by intro h; rw [h] at hc; simp at hc); rw [hb] <;> rfl)
   | (have hb := blameL_no (l := allP m) (k := k) (by omega) hk.2; rw [hb] <;> rfl)
   | (refine ⟨by omega, fun j hj => ?_⟩; omega)
   | (refine ⟨by omega, fun j hj => ?_⟩; by_cases e : j = k; (subst e; exact List.eq_nil_of_length_eq_zero (by omega)); exact hk.2 j (by omega))
   | trace_state
 ·have e : blameP p m = (nilM, ⟨0, 0, 0⟩, mixErr p m) := by unfold blameP; rw [if_pos h]
  rw [e]
  refine startW (tm := [(0, _), (1, _)]) Tryz.func114 rfl Tryz.ntmps114 rfl rfl rfl rfl ?_
  repeat' (first
 |(with_reducible refine K_ca 136 ?_); refine zC (paborts0_fn p m hu h) ?_
 |refine wA ?_
 |(refine wC ?_ ?_ <;> intro hc)
 |refine wB ?_ ?_
 |(with_reducible refine JL.block ?_)
 |(with_reducible refine F_at ?_); refine eW (vs := [(_, _), (_, _), (_, _)]) Tryz.results114 ?_; (focus (repeat' (first | exact oA | refine oB ?_ | refine oC ?_ ?_ | fail)))
 |exact oM
 |fail)
  all_goals first | rfl | exact absurd hc h | trace_state
end Go.Proofs.YtdpeoolildjohaaGreatDoor

namespace Go.Proofs.YtdpeoolildjohaaGreatDoor
open Go Go.RowKit
set_option linter.unusedSimpArgs false
set_option linter.unusedVariables false
structure StepAt (p : Prob) (s : StepD) : Prop where
 nn : 0 ≤ s.idx
 tab : s.kind = 3 → s.idx < p.tabs.length
 svc : ¬ s.kind = 3 → s.idx < p.vs.length
 ver : s.kind = 1 → 0 ≤ s.ver ∧ s.ver < p.vs.getD s.idx.toNat 0
theorem stepAt_of {p : Prob} {s : StepD} (h1 : stepOK s = true) (h2 : thereB p s = true) : StepAt p s := by
 simp only [stepOK, decide_eq_true_eq] at h1
 unfold thereB at h2
 split at h2
 ·have h2 := of_decide_eq_true h2
  exact ⟨by omega, fun _ => h2, fun h => by contradiction, fun h => by omega⟩
 ·simp only [Bool.and_eq_true, Bool.or_eq_true, decide_eq_true_eq] at h2
  exact ⟨by omega, fun h => by contradiction, fun _ => h2.1, fun h => ⟨by omega, by rcases h2.2 with h3 | h3; exact absurd h h3; exact h3⟩⟩
theorem set_len {α : Type} {l : List α} {k : Nat} {x : α} : (l.set k x).length = l.length := List.length_set
def hup (p : Prob) (m : MixD) (i v : Int) (k : Nat) : List Int := (List.range m.held.length).map fun j => if j < k then heldUp p i v (p.tabs.getD j nilT) (m.held.getD j 0) else m.held.getD j 0
theorem hup_len {p : Prob} {m : MixD} {i v : Int} {k : Nat} : (hup p m i v k).length = m.held.length := by simp [hup]
theorem hup_get {p : Prob} {m : MixD} {i v : Int} {k j : Nat} (h : j < m.held.length) : (hup p m i v k).getD j 0 = if j < k then heldUp p i v (p.tabs.getD j nilT) (m.held.getD j 0) else m.held.getD j 0 := by
 unfold hup
 rw [List.getD_eq_getElem?_getD, List.getElem?_map, List.getElem?_range h]
 rfl
theorem getD_ext {l r : List Int} (h1 : l.length = r.length) (h : ∀ j, j < l.length → l.getD j 0 = r.getD j 0) : l = r := by
 refine List.ext_getElem h1 fun j a b => ?_
 have := h j a
 rwa [List.getD_eq_getElem?_getD, List.getElem?_eq_getElem a, List.getD_eq_getElem?_getD, List.getElem?_eq_getElem b] at this
theorem getDi_set {l : List Int} {k j : Nat} {x : Int} : (l.set k x).getD j 0 = if k = j ∧ k < l.length then x else l.getD j 0 := by
 rw [List.getD_eq_getElem?_getD, List.getElem?_set, List.getD_eq_getElem?_getD]
 by_cases h : k = j
 ·subst h
  by_cases h2 : k < l.length
  ·simp [h2]
  ·simp [h2]
 ·simp [h]
theorem hup_0 {p : Prob} {m : MixD} {i v : Int} : hup p m i v 0 = m.held := by
 refine getD_ext hup_len fun j hj => ?_
 rw [hup_len] at hj
 rw [hup_get hj, if_neg (by omega)]
theorem hup_all {p : Prob} {m : MixD} {i v : Int} {k : Nat} (h : m.held.length ≤ k) : hup p m i v k = (List.range m.held.length).map fun k => heldUp p i v (p.tabs.getD k nilT) (m.held.getD k 0) := by
 unfold hup
 refine List.map_congr_left fun j hj => ?_
 rw [if_pos (by have := List.mem_range.1 hj; omega)]
theorem hup_set {p : Prob} {m : MixD} {i v : Int} {k : Nat} (h : k < m.held.length) (h1 : (p.tabs.getD k nilT).frm = i) (h2 : storedB (p.tabs.getD k nilT).kind = true) : (hup p m i v k).set k (bits BinOp.or IntKind.u8 ((hup p m i v k).getD k 0) (one8 v)) = hup p m i v (k + 1) := by
 refine getD_ext (by rw [set_len, hup_len, hup_len]) fun j hj => ?_
 rw [set_len, hup_len] at hj
 rw [getDi_set, hup_len, hup_get hj, hup_get hj, hup_get h, if_neg (Nat.lt_irrefl k)]
 by_cases e : k = j
 ·subst e
  rw [if_pos ⟨rfl, h⟩, if_pos (by omega)]
  unfold heldUp
  rw [if_pos ⟨h1, h2⟩]
 ·rw [if_neg (fun a => e a.1)]
  by_cases e2 : j < k
  ·rw [if_pos e2, if_pos (by omega)]
  ·rw [if_neg e2, if_neg (by omega)]
theorem hup_keep {p : Prob} {m : MixD} {i v : Int} {k : Nat} (h : ¬ ((p.tabs.getD k nilT).frm = i ∧ storedB (p.tabs.getD k nilT).kind = true)) : hup p m i v (k + 1) = hup p m i v k := by
 refine getD_ext (by rw [hup_len, hup_len]) fun j hj => ?_
 rw [hup_len] at hj
 rw [hup_get hj, hup_get hj]
 by_cases e : j = k
 ·subst e
  rw [if_pos (by omega), if_neg (by omega)]
  unfold heldUp
  rw [if_neg h]
 ·by_cases e2 : j < k
  ·rw [if_pos e2, if_pos (by omega)]
  ·rw [if_neg e2, if_neg (by omega)]
def clr1 (p : Prob) (m : MixD) (t : Tab) (h : Int) (u : Nat) : Bool := !(hasV h u && !hasV (runS m t.frm) u && (decide (t.kind = 4) && !rwAt t u (m.base.getD t.frm.toNat 0)))
theorem clear_no {p : Prob} {m : MixD} {t : Tab} {h : Int} {u : Nat} (hu : (u : Int) < p.vs.getD t.frm.toNat 0) (h1 : clr1 p m t h u = false) : clearB p m t h = false := range_no (by omega) h1
theorem clear_yes {p : Prob} {m : MixD} {t : Tab} {h : Int} {u : Nat} (hu : ¬ (u : Int) < p.vs.getD t.frm.toNat 0) (h1 : ∀ j, j < u → clr1 p m t h j = true) : clearB p m t h = true := by
 unfold clearB
 rw [List.all_eq_true]
 exact fun j hj => h1 j (by have := List.mem_range.1 hj; omega)
theorem after1 {p : Prob} {m : MixD} {s : StepD} (h : s.kind = 1) : afterP p m s = if 0 ≤ m.next.getD s.idx.toNat 0 ∨ s.ver = m.base.getD s.idx.toNat 0 then none else some (startedM p m s) := by unfold afterP; rw [if_pos h]
theorem after2 {p : Prob} {m : MixD} {s : StepD} (h : s.kind = 2) : afterP p m s = if m.next.getD s.idx.toNat 0 < 0 then none else some ⟨m.base.set s.idx.toNat (m.next.getD s.idx.toNat 0), m.next.set s.idx.toNat (-1), m.held⟩ := by unfold afterP; rw [if_neg (by omega), if_pos h]
theorem after3 {p : Prob} {m : MixD} {s : StepD} (h : s.kind = 3) : afterP p m s = if storedB (p.tabs.getD s.idx.toNat nilT).kind = false then none
     else if m.held.getD s.idx.toNat 0 = runS m (p.tabs.getD s.idx.toNat nilT).frm then none
     else if clearB p m (p.tabs.getD s.idx.toNat nilT) (m.held.getD s.idx.toNat 0) = false then none
     else some ⟨m.base, m.next, m.held.set s.idx.toNat (runS m (p.tabs.getD s.idx.toNat nilT).frm)⟩ := by unfold afterP; rw [if_neg (by omega), if_neg (by omega), if_pos h]
theorem after4 {p : Prob} {m : MixD} {s : StepD} (h1 : ¬ s.kind = 1) (h2 : ¬ s.kind = 2) (h3 : ¬ s.kind = 3) : afterP p m s = if m.next.getD s.idx.toNat 0 < 0 then none else some ⟨m.base, m.next.set s.idx.toNat (-1), m.held⟩ := by unfold afterP; rw [if_neg h1, if_neg h2, if_neg h3]
end Go.Proofs.YtdpeoolildjohaaGreatDoor

namespace Go.Proofs.YtdpeoolildjohaaGreatDoor
open Go Go.RowKit
set_option linter.unusedSimpArgs false
set_option linter.unusedVariables false
theorem wrap_u8 (n : Int) : 0 ≤ IntKind.u8.wrap n ∧ IntKind.u8.wrap n < 256 := by
 simp only [IntKind.wrap, IntKind.bits, IntKind.signed]
 simp
 omega
theorem bits_u8 (op : BinOp) (a b : Int) : 0 ≤ bits op IntKind.u8 a b ∧ bits op IntKind.u8 a b < 256 := wrap_u8 _
theorem runV_u8 (a b : Int) : 0 ≤ runV a b ∧ runV a b < 256 := by
 unfold runV
 split
 ·exact bits_u8 _ _ _
 ·exact wrap_u8 _
structure MixG (p : Prob) (m : MixD) : Prop where
 inn : MixIn p m
 u : u8s m.held
theorem mem_set {α : Type} {l : List α} {k : Nat} {x y : α} (h : y ∈ l.set k x) : y ∈ l ∨ y = x := List.mem_or_eq_of_mem_set h
theorem u8_get {l : List Int} (h : u8s l) (k : Nat) : 0 ≤ l.getD k 0 ∧ l.getD k 0 < 256 := by
 by_cases hk : k < l.length
 ·exact h _ (int_getD_mem hk)
 ·rw [List.getD_eq_getElem?_getD, List.getElem?_eq_none (by omega)]; decide
theorem after_g {p : Prob} {m x : MixD} {s : StepD} (hm : MixG p m) (hs : StepAt p s) (h : afterP p m s = some x) : MixG p x := by
 obtain ⟨hi, hu⟩ := hm
 by_cases k1 : s.kind = 1
 ·rw [after1 k1] at h
  split at h
  ·cases h
  ·cases h
   have hv := hs.ver k1
   refine ⟨⟨hi.vp, hi.lb, ?_, ?_, fun i h => ⟨(hi.rng i h).1, ?_⟩⟩, ?_⟩
   ·simp only [startedM]; rw [set_len]; exact hi.ln
   ·simp only [startedM, List.length_map, List.length_range]; exact hi.lh
   ·simp only [startedM]
    rw [getDi_set]
    split
    ·rename_i e; rw [← e.1]; omega
    ·exact (hi.rng i h).2
   ·intro y hy
    simp only [startedM, List.mem_map, List.mem_range] at hy
    obtain ⟨j, hj, rfl⟩ := hy
    unfold heldUp
    split
    ·exact bits_u8 _ _ _
    ·exact u8_get hu j
 ·by_cases k2 : s.kind = 2
  ·rw [after2 k2] at h
   split at h
   ·cases h
   ·rename_i hc
    cases h
    have hv := hs.svc (by omega)
    have h0 := hs.nn
    have hr := hi.rng s.idx.toNat (by omega)
    refine ⟨⟨hi.vp, by rw [set_len]; exact hi.lb, by rw [set_len]; exact hi.ln, hi.lh, fun i h => ⟨?_, ?_⟩⟩, hu⟩
    ·rw [getDi_set]
     split
     ·rename_i e; rw [← e.1]; omega
     ·exact (hi.rng i h).1
    ·rw [getDi_set]
     have := hi.rng i h
     split
     ·omega
     ·exact this.2
  ·by_cases k3 : s.kind = 3
   ·rw [after3 k3] at h
    split at h
    ·cases h
    ·split at h
     ·cases h
     ·split at h
      ·cases h
      ·cases h
       refine ⟨⟨hi.vp, hi.lb, hi.ln, by rw [set_len]; exact hi.lh, hi.rng⟩, fun y hy => ?_⟩
       rcases mem_set hy with h1 | rfl
       ·exact hu _ h1
       ·exact runV_u8 _ _
   ·rw [after4 k1 k2 k3] at h
    split at h
    ·cases h
    ·cases h
     refine ⟨⟨hi.vp, hi.lb, by rw [set_len]; exact hi.ln, hi.lh, fun i h => ⟨(hi.rng i h).1, ?_⟩⟩, hu⟩
     rw [getDi_set]
     have := hi.rng i h
     split
     ·omega
     ·exact this.2
theorem start_g {p : Prob} (h : vpErr p = 0) : MixG p (startM p) := by
 have hv := vp_all h
 refine ⟨⟨h, by simp only [startM]; exact hv.2.2.1, by simp [startM], by simp [startM], fun i hi => ⟨by simp only [startM]; exact (hv.2.2.2.2 i hi).2.1, ?_⟩⟩, fun y hy => ?_⟩
 ·have h1 := (hv.2.2.2.2 i hi).1
  have e : (List.replicate p.vs.length (-1 : Int)).getD i 0 = -1 := by rw [List.getD_eq_getElem?_getD, List.getElem?_replicate, if_pos hi]; rfl
  simp only [startM]
  rw [e]; omega
 ·simp only [startM, List.mem_map] at hy
  obtain ⟨t, ht, rfl⟩ := hy
  unfold startHeld
  split
  ·exact wrap_u8 _
  ·decide
theorem step_at {p : Prob} {m : MixD} {s : StepD} (h : s ∈ stepsP p m) : StepAt p s ∧ afterP p m s = some (applyP p m s).1 ∧ 1 ≤ s.kind ∧ s.kind ≤ 3 := by
 obtain ⟨h1, h2⟩ := steps_mem h
 obtain ⟨a1, a2, a3, a4⟩ := apply_after h1
 exact ⟨stepAt_of a3 a4, a1, h2⟩
def NodesG (p : Prob) (l : List NodeD) : Prop := ∀ k, k < l.length → MixG p (l.getD k nilN).mix
theorem nodesG_add {p : Prob} {l : List NodeD} {n : NodeD} (h : NodesG p l) (hn : MixG p n.mix) : NodesG p (l ++ [n]) := by
 intro k hk
 by_cases e : k < l.length
 ·rw [getD_app e]; exact h k e
 ·have : k = l.length := by simp at hk; omega
  subst this
  rw [getD_last]; exact hn
theorem after_some_g {p : Prob} {m : MixD} {s : StepD} (hm : MixG p m) (h : s ∈ stepsP p m) : MixG p ((afterP p m s).getD nilM) := by
 obtain ⟨h1, h2, _⟩ := step_at h
 rw [h2]
 exact after_g hm h1 h2
theorem getD_mem {α : Type} {l : List α} {k : Nat} {d : α} (h : k < l.length) : l.getD k d ∈ l := by
 rw [List.getD_eq_getElem?_getD, List.getElem?_eq_getElem h]; exact List.getElem_mem h
theorem dropD_cons {α : Type} {l : List α} {k : Nat} {d : α} (h : k < l.length) : l.drop k = l.getD k d :: l.drop (k + 1) := by
 rw [List.getD_eq_getElem?_getD, List.getElem?_eq_getElem h, List.drop_eq_getElem_cons h]; rfl
theorem find_at {m : MixD} : ∀ {l : List NodeD} {k i : Nat}, k < l.length → (∀ j, j < k → ¬ (l.getD j nilN).mix = m) → (l.getD k nilN).mix = m → findFrom m l i = ((i + k : Nat) : Int)
 | n :: r, 0, i, _, _, h => by
  have h : n.mix = m := h
  unfold findFrom; rw [if_pos h]; rfl
 | n :: r, k + 1, i, hk, h0, h => by
  have h1 : ¬ n.mix = m := h0 0 (by omega)
  unfold findFrom
  rw [if_neg h1, find_at (k := k) (by simpa using hk) (fun j hj => h0 (j + 1) (by omega)) h]
  congr 1; omega
theorem find_none {m : MixD} : ∀ {l : List NodeD} {i : Nat}, (∀ j, j < l.length → ¬ (l.getD j nilN).mix = m) → findFrom m l i = -1
 | [], _, _ => rfl
 | n :: r, i, h0 => by
  have h1 : ¬ n.mix = m := h0 0 (by simp)
  unfold findFrom
  rw [if_neg h1, find_none fun j hj => h0 (j + 1) (by simpa using hj)]
theorem steps_len (p : Prob) (m : MixD) (hp : vpErr p = 0) : (stepsP p m).length ≤ 216 := by
 have hv := vp_all hp
 have gen : ∀ {f : Nat → List StepD} {c : Nat} (n : Nat), (∀ i, (f i).length ≤ c) → ((List.range n).flatMap f).length ≤ n * c := by
  intro f c n h
  induction n with
  | zero => simp
  | succ n ih =>
   rw [range_fm, List.length_append, Nat.succ_mul]
   have := h n
   omega
 unfold stepsP
 have h1 := gen (f := fun (kind : Nat) => (List.range (max p.vs.length p.tabs.length)).flatMap fun (i : Nat) => (List.range 6).flatMap fun (v : Nat) => if (applyP p m ⟨(kind : Int) + 1, i, v⟩).2 = 0 then [⟨(kind : Int) + 1, i, v⟩] else []) (c := 72) 3 fun kind => by
  have h2 := gen (f := fun (i : Nat) => (List.range 6).flatMap fun (v : Nat) => if (applyP p m ⟨(kind : Int) + 1, i, v⟩).2 = 0 then [(⟨(kind : Int) + 1, i, v⟩ : StepD)] else []) (c := 6) (max p.vs.length p.tabs.length) fun i => by
   have h3 := gen (f := fun (v : Nat) => if (applyP p m ⟨(kind : Int) + 1, i, v⟩).2 = 0 then [(⟨(kind : Int) + 1, i, v⟩ : StepD)] else []) (c := 1) 6 fun v => by
    split <;> simp
   simpa using h3
  have : max p.vs.length p.tabs.length ≤ 12 := by omega
  have : max p.vs.length p.tabs.length * 6 ≤ 72 := by omega
  exact Nat.le_trans h2 this
 simpa using h1
def nx3 (p : Prob) (i : Nat) (l : List NodeD) (s : StepD) : List NodeD := if robustP p ((afterP p (l.getD i nilN).mix s).getD nilM) = true ∧ findN l ((afterP p (l.getD i nilN).mix s).getD nilM) < 0 then l ++ [⟨(afterP p (l.getD i nilN).mix s).getD nilM, i, s⟩] else l
theorem nx3_yes {p : Prob} {i : Nat} {l : List NodeD} {s : StepD} (h : robustP p ((afterP p (l.getD i nilN).mix s).getD nilM) = true) (h2 : findN l ((afterP p (l.getD i nilN).mix s).getD nilM) < 0) : nx3 p i l s = l ++ [⟨(afterP p (l.getD i nilN).mix s).getD nilM, i, s⟩] := by unfold nx3; rw [if_pos ⟨h, h2⟩]
theorem nx3_no {p : Prob} {i : Nat} {l : List NodeD} {s : StepD} (h : robustP p ((afterP p (l.getD i nilN).mix s).getD nilM) = false ∨ ¬ findN l ((afterP p (l.getD i nilN).mix s).getD nilM) < 0) : nx3 p i l s = l := by
 unfold nx3
 rw [if_neg]
 rintro ⟨a, b⟩
 rcases h with h | h
 ·rw [h] at a; cases a
 ·exact h b
theorem spaceI_cons {p : Prob} {most i : Nat} {s : StepD} {r : List StepD} {l : List NodeD} : spaceI p most i (s :: r) l = if most < (nx3 p i l s).length then none else spaceI p most i r (nx3 p i l s) := rfl
theorem spaceI_at {p : Prob} {most i k : Nat} {ss : List StepD} {l : List NodeD} (h : k < ss.length) : spaceI p most i (ss.drop k) l = if most < (nx3 p i l (ss.getD k nilS)).length then none else spaceI p most i (ss.drop (k + 1)) (nx3 p i l (ss.getD k nilS)) := by
 rw [dropD_cons (d := nilS) h, spaceI_cons]
theorem spaceG_at {p : Prob} {most i n : Nat} {l : List NodeD} (hi : i < l.length) (hn : i ≤ most) : spaceG p most (most + 2 - i) i l = match spaceI p most i (stepsP p (l.getD i nilN).mix) l with
    | none => none
    | some l' => spaceG p most (most + 2 - (i + 1)) (i + 1) l' := by
 rw [show most + 2 - i = (most + 2 - (i + 1)) + 1 by omega]
 show (if i < l.length then _ else _) = _
 rw [if_pos hi]
 cases spaceI p most i (stepsP p (l.getD i nilN).mix) l <;> rfl
theorem spaceG_end {p : Prob} {most i : Nat} {l : List NodeD} (hi : l.length ≤ i) (hn : i ≤ most + 1) : spaceG p most (most + 2 - i) i l = some l := by
 rw [show most + 2 - i = (most + 2 - (i + 1)) + 1 by omega]
 show (if i < l.length then _ else _) = _
 rw [if_neg (by omega)]
theorem nx3_or {p : Prob} {i : Nat} {l : List NodeD} {s : StepD} : nx3 p i l s = l ∨ nx3 p i l s = l ++ [⟨(afterP p (l.getD i nilN).mix s).getD nilM, i, s⟩] := by
 unfold nx3; split
 ·exact .inr rfl
 ·exact .inl rfl
theorem sp_inv {p : Prob} {most i k : Nat} {mx : MixD} {l : List NodeD} {q : Option (List NodeD)} (hg : MixG p mx) (hk : k < (stepsP p mx).length) (h1 : NodesG p l) (h2 : i < l.length) (h3 : (l.getD i nilN).mix = mx) (h4 : spaceI p most i ((stepsP p mx).drop k) l = q) (hn : ¬ most < (nx3 p i l ((stepsP p mx).getD k nilS)).length) :
    k + 1 ≤ (stepsP p mx).length ∧ NodesG p (nx3 p i l ((stepsP p mx).getD k nilS)) ∧ i < (nx3 p i l ((stepsP p mx).getD k nilS)).length ∧ (nx3 p i l ((stepsP p mx).getD k nilS)).length ≤ most ∧ ((nx3 p i l ((stepsP p mx).getD k nilS)).getD i nilN).mix = mx ∧ spaceI p most i ((stepsP p mx).drop (k + 1)) (nx3 p i l ((stepsP p mx).getD k nilS)) = q := by
 refine ⟨by omega, ?_, ?_, by omega, ?_, ?_⟩
 ·rcases nx3_or (p := p) (i := i) (l := l) (s := (stepsP p mx).getD k nilS) with e | e
  ·rw [e]; exact h1
  ·rw [e]; exact nodesG_add h1 (by show MixG p _; rw [h3]; exact after_some_g hg (getD_mem hk))
 ·rcases nx3_or (p := p) (i := i) (l := l) (s := (stepsP p mx).getD k nilS) with e | e
  ·rw [e]; exact h2
  ·rw [e]; simp; omega
 ·rcases nx3_or (p := p) (i := i) (l := l) (s := (stepsP p mx).getD k nilS) with e | e
  ·rw [e]; exact h3
  ·rw [e, getD_app h2]; exact h3
 ·rw [← h4, spaceI_at hk, if_neg hn]
theorem sp_none {p : Prob} {most i k : Nat} {m : MixD} {l0 l : List NodeD} (hk : k < (stepsP p (l0.getD i nilN).mix).length) (hi : i < l0.length) (hm : i ≤ most) (h4 : spaceI p most i ((stepsP p (l0.getD i nilN).mix).drop k) l = spaceI p most i (stepsP p (l0.getD i nilN).mix) l0) (h5 : spaceG p most (most + 2 - i) i l0 = spaceP p m most) (hn : most < (nx3 p i l ((stepsP p (l0.getD i nilN).mix).getD k nilS)).length) : spaceP p m most = none := by
 rw [← h5, spaceG_at (n := 0) hi hm, ← h4, spaceI_at hk, if_pos hn]
theorem sp_next {p : Prob} {most i k : Nat} {m : MixD} {l0 l : List NodeD} (hk : (stepsP p (l0.getD i nilN).mix).length ≤ k) (hi : i < l0.length) (hm : i ≤ most) (h4 : spaceI p most i ((stepsP p (l0.getD i nilN).mix).drop k) l = spaceI p most i (stepsP p (l0.getD i nilN).mix) l0) (h5 : spaceG p most (most + 2 - i) i l0 = spaceP p m most) : spaceG p most (most + 2 - (i + 1)) (i + 1) l = spaceP p m most := by
 rw [← h5, spaceG_at (n := 0) hi hm, ← h4, List.drop_eq_nil_of_le hk]
 rfl
theorem way_next {p : Prob} {m0 : MixD} {l : List NodeD} (hN : NodesOK p m0 l) {k : Nat} {acc : List StepD} (hk : k < l.length) (hc : 0 ≤ (l.getD k nilN).before) : (l.getD k nilN).before.toNat < k ∧ wayG l ((l.getD k nilN).before.toNat + 1) (((l.getD k nilN).before.toNat : Nat) : Int) ((l.getD k nilN).by_ :: acc) = wayG l (k + 1) (k : Int) acc := by
 by_cases h0 : k = 0
 ·subst h0; rw [hN.first] at hc; simp at hc
 ·obtain ⟨j, h1, h2, h3, h4, h5⟩ := hN.up k (by omega) hk
  have e : wayG l (k + 1) (k : Int) acc = wayG l k (l.getD k nilN).before ((l.getD k nilN).by_ :: acc) := by
   show (if 0 ≤ (l.getD (k : Int).toNat nilN).before then _ else _) = _
   rw [Int.toNat_natCast, if_pos hc]
  rw [e, h2, Int.toNat_natCast]
  exact ⟨h1, wayG_fuel hN _ (by omega) (by omega) (by omega)⟩
theorem way_end {l : List NodeD} {k : Nat} {acc : List StepD} (hc : ¬ 0 ≤ (l.getD k nilN).before) : wayG l (k + 1) (k : Int) acc = acc := by
 show (if 0 ≤ (l.getD (k : Int).toNat nilN).before then _ else _) = _
 rw [Int.toNat_natCast, if_neg hc]
end Go.Proofs.YtdpeoolildjohaaGreatDoor

namespace Go.Proofs.YtdpeoolildjohaaGreatDoor
open Go Go.RowKit
set_option linter.unusedSimpArgs false
set_option linter.unusedVariables false
def heldW (p : Prob) (i v : Int) (h : List Int) (k : Nat) : List Int := (List.range h.length).map fun j => if j < k then heldUp p i v (p.tabs.getD j nilT) (h.getD j 0) else h.getD j 0
theorem heldW_len {p : Prob} {i v : Int} {h : List Int} {k : Nat} : (heldW p i v h k).length = h.length := by simp [heldW]
theorem heldW_get {p : Prob} {i v : Int} {h : List Int} {k j : Nat} (hj : j < h.length) : (heldW p i v h k).getD j 0 = if j < k then heldUp p i v (p.tabs.getD j nilT) (h.getD j 0) else h.getD j 0 := map_range_get hj
theorem heldW_0 {p : Prob} {i v : Int} {h : List Int} : heldW p i v h 0 = h := by
 refine list_ext heldW_len fun j hj => ?_
 rw [heldW_len] at hj
 rw [heldW_get hj, if_neg (by omega)]
theorem heldW_all {p : Prob} {m : MixD} {s : StepD} {k : Nat} (hk : m.held.length ≤ k) : heldW p s.idx s.ver m.held k = (startedM p m s).held := by
 show (List.range m.held.length).map _ = (List.range m.held.length).map _
 refine List.map_congr_left fun j hj => ?_
 have := List.mem_range.1 hj
 rw [if_pos (by omega)]
theorem heldW_keep {p : Prob} {i v : Int} {h : List Int} {k : Nat} (hk : k < h.length) (hn : ¬ ((p.tabs.getD k nilT).frm = i ∧ storedB (p.tabs.getD k nilT).kind = true)) : heldW p i v h (k + 1) = heldW p i v h k := by
 refine list_ext (by rw [heldW_len, heldW_len]) fun j hj => ?_
 rw [heldW_len] at hj
 rw [heldW_get hj, heldW_get hj]
 by_cases e : j = k
 ·subst e
  rw [if_pos (by omega), if_neg (by omega)]
  unfold heldUp
  rw [if_neg hn]
 ·by_cases c : j < k
  ·rw [if_pos (by omega), if_pos c]
  ·rw [if_neg (by omega), if_neg c]
theorem heldW_at {p : Prob} {i v : Int} {h : List Int} {k : Nat} (hk : k < h.length) : (heldW p i v h k).getD k 0 = h.getD k 0 := by rw [heldW_get hk, if_neg (by omega)]
theorem heldW_set {p : Prob} {i v : Int} {h : List Int} {k : Nat} (hk : k < h.length) (hn : (p.tabs.getD k nilT).frm = i ∧ storedB (p.tabs.getD k nilT).kind = true) : (heldW p i v h k).set k (bits BinOp.or IntKind.u8 ((heldW p i v h k).getD k 0) (one8 v)) = heldW p i v h (k + 1) := by
 refine list_ext (by rw [List.length_set, heldW_len, heldW_len]) fun j hj => ?_
 rw [List.length_set, heldW_len] at hj
 rw [heldW_get hj]
 by_cases e : j = k
 ·subst e
  rw [heldW_at hk, if_pos (by omega), List.getD_eq_getElem?_getD, List.getElem?_set_self (by rw [heldW_len]; exact hk)]
  unfold heldUp
  rw [if_pos hn]; rfl
 ·have e5 : ∀ x, ((heldW p i v h k).set k x).getD j 0 = (heldW p i v h k).getD j 0 := fun x => by rw [List.getD_eq_getElem?_getD, List.getElem?_set_ne (fun a => e a.symm), ← List.getD_eq_getElem?_getD]
  rw [e5, heldW_get hj]
  by_cases c : j < k
  ·rw [if_pos (by omega), if_pos (by omega)]
  ·rw [if_neg (by omega), if_neg (by omega)]
def tz8 (x : Int) : Nat := ((List.range 8).find? fun (u : Nat) => hasV x u).getD 8
def clr8 (x : Int) : Int := bits BinOp.and IntKind.u8 x (IntKind.u8.wrap (x - 1))
theorem tz_all : ((List.range 64).all fun (n : Nat) => n == 0 || (decide (tz8 n < 6) && hasV n (tz8 n) && decide (0 ≤ clr8 n ∧ clr8 n < n) && (List.range 6).all fun (u : Nat) => hasV (clr8 n) u == (hasV n u && u != tz8 n))) = true := by decide +kernel
theorem tz_at {x : Int} (h : 0 < x ∧ x < 64) : tz8 x < 6 ∧ hasV x (tz8 x) = true ∧ (0 ≤ clr8 x ∧ clr8 x < x) ∧ ∀ u : Nat, u < 6 → hasV (clr8 x) u = (hasV x u && u != tz8 x) := by
 have h1 := List.all_eq_true.1 tz_all x.toNat (List.mem_range.2 (by omega))
 have e : ((x.toNat : Nat) : Int) = x := by omega
 rw [e] at h1
 simp only [Bool.or_eq_true, beq_iff_eq, Bool.and_eq_true, decide_eq_true_eq] at h1
 rcases h1 with h1 | ⟨⟨⟨h1, h2⟩, h3⟩, h4⟩
 ·omega
 ·refine ⟨h1, h2, h3, fun u hu => ?_⟩
  have := List.all_eq_true.1 h4 u (List.mem_range.2 hu)
  simpa using this
def rewL (q : Nat → Bool) (x : Int) : Bool := (List.range 6).all fun (u : Nat) => !hasV x u || q u
theorem rewL_no {q : Nat → Bool} {x : Int} (h : 0 < x ∧ x < 64) (hq : q (tz8 x) = false) : rewL q x = false := by
 obtain ⟨h1, h2, _⟩ := tz_at h
 refine range_no h1 ?_
 rw [h2, hq]; rfl
theorem rewL_yes {q : Nat → Bool} {x : Int} (h : 0 < x ∧ x < 64) (hq : q (tz8 x) = true) : rewL q (clr8 x) = rewL q x := by
 obtain ⟨h1, h2, _, h4⟩ := tz_at h
 unfold rewL
 rw [Bool.eq_iff_iff, List.all_eq_true, List.all_eq_true]
 constructor
 ·intro a u hu
  have h5 := a u hu
  rw [h4 u (List.mem_range.1 hu)] at h5
  by_cases e : u = tz8 x
  ·subst e; rw [hq, Bool.or_true]
  ·have : (u != tz8 x) = true := by simpa using e
   rw [this, Bool.and_true] at h5; exact h5
 ·intro a u hu
  have h5 := a u hu
  rw [h4 u (List.mem_range.1 hu)]
  by_cases e : u = tz8 x
  ·subst e; rw [hq, Bool.or_true]
  ·have : (u != tz8 x) = true := by simpa using e
   rw [this, Bool.and_true]; exact h5
theorem rewL_0 {q : Nat → Bool} : rewL q 0 = true := by
 unfold rewL
 rw [List.all_eq_true]
 intro u _
 have : hasV 0 u = false := by
  refine hasV_no.1 ?_
  unfold bitOf
  rw [Int.zero_ediv]; rfl
 rw [this]; rfl
theorem hasV_bit {x : Int} (h : 0 ≤ x ∧ x < 256) (v : Nat) : hasV x v = (BitVec.ofInt 8 x).getLsbD v := by
 have e1 : (BitVec.ofInt 8 x).toNat = x.toNat := by rw [BitVec.toNat_ofInt]; omega
 rw [BitVec.getLsbD, e1, Nat.testBit_eq_decide_div_mod_eq]
 unfold hasV
 congr 1
 unfold bitOf
 have e2 : (x / 2 ^ ((v : Nat) : Int).toNat) = ((x.toNat / 2 ^ v : Nat) : Int) := by
  rw [Int.toNat_natCast]
  conv => lhs; rw [show x = ((x.toNat : Nat) : Int) by omega]
  push_cast; rfl
 rw [e2]
 have hz : x.toNat / 2 ^ v < 256 := Nat.lt_of_le_of_lt (Nat.div_le_self _ _) (by omega)
 show (IntKind.u8.wrap (((BitVec.ofInt 8 ((x.toNat / 2 ^ v : Nat) : Int) &&& BitVec.ofInt 8 1).toNat : Nat) : Int) = 1) = _
 rw [and_one, show (BitVec.ofInt 8 1).toNat = 1 from rfl, Nat.and_one_is_mod, BitVec.toNat_ofInt]
 generalize x.toNat / 2 ^ v = z at hz
 have e3 : (((z : Int) % ((2 ^ 8 : Nat) : Int)).toNat) % 2 = z % 2 := by
  have : ((2 ^ 8 : Nat) : Int) = 256 := by decide
  rw [this]; omega
 rw [e3]
 have : z % 2 = 0 ∨ z % 2 = 1 := by omega
 rcases this with e | e <;> rw [e] <;> simp [IntKind.wrap, IntKind.bits, IntKind.signed]
theorem bits_rng (op : BinOp) (a b : Int) : 0 ≤ bits op IntKind.u8 a b ∧ bits op IntKind.u8 a b < 256 := by
 unfold bits
 cases op <;> simp [IntKind.wrap, IntKind.bits, IntKind.signed] <;> omega
theorem ofInt_wrap (z : BitVec 8) : BitVec.ofInt 8 (IntKind.u8.wrap ((z.toNat : Nat) : Int)) = z := by
 have h1 : IntKind.u8.wrap ((z.toNat : Nat) : Int) = (z.toNat : Int) := wr_u8 ⟨by omega, by have := z.isLt; omega⟩
 rw [h1]
 apply BitVec.eq_of_toNat_eq
 rw [BitVec.toNat_ofInt]
 have := z.isLt
 omega
theorem hasV_andNot {a b : Int} (ha : 0 ≤ a ∧ a < 256) (hb : 0 ≤ b ∧ b < 256) {u : Nat} (hu : u < 8) : hasV (bits BinOp.andNot IntKind.u8 a b) u = (hasV a u && !hasV b u) := by
 rw [hasV_bit (bits_rng _ _ _), hasV_bit ha, hasV_bit hb]
 show (BitVec.ofInt 8 (IntKind.u8.wrap (((BitVec.ofInt 8 a &&& ~~~ BitVec.ofInt 8 b).toNat : Nat) : Int))).getLsbD u = _
 rw [ofInt_wrap, BitVec.getLsbD_and, BitVec.getLsbD_not]
 simp [hu]
theorem hasV_or {a b : Int} (ha : 0 ≤ a ∧ a < 256) (hb : 0 ≤ b ∧ b < 256) {u : Nat} : hasV (bits BinOp.or IntKind.u8 a b) u = (hasV a u || hasV b u) := by
 rw [hasV_bit (bits_rng _ _ _), hasV_bit ha, hasV_bit hb]
 show (BitVec.ofInt 8 (IntKind.u8.wrap (((BitVec.ofInt 8 a ||| BitVec.ofInt 8 b).toNat : Nat) : Int))).getLsbD u = _
 rw [ofInt_wrap, BitVec.getLsbD_or]
theorem hasV_over {x : Int} (h : 0 ≤ x ∧ x < 256) {u : Nat} (hu : 8 ≤ u) : hasV x u = false := by
 rw [hasV_bit h]; exact BitVec.getLsbD_of_ge _ _ hu
theorem hasV_ext {a b : Int} (ha : 0 ≤ a ∧ a < 256) (hb : 0 ≤ b ∧ b < 256) (h : ∀ u : Nat, u < 8 → hasV a u = hasV b u) : a = b := by
 have e : BitVec.ofInt 8 a = BitVec.ofInt 8 b := by
  apply BitVec.eq_of_getLsbD_eq
  intro u hu
  rw [← hasV_bit ha, ← hasV_bit hb]; exact h u hu
 have h1 : (BitVec.ofInt 8 a).toNat = a.toNat := by rw [BitVec.toNat_ofInt]; omega
 have h2 : (BitVec.ofInt 8 b).toNat = b.toNat := by rw [BitVec.toNat_ofInt]; omega
 rw [e, h2] at h1
 omega
theorem hasV_lt {x : Int} (h : 0 ≤ x ∧ x < 256) (h6 : hasV x 6 = false) (h7 : hasV x 7 = false) : x < 64 := by
 have h6 : hasV x ((6 : Nat) : Int) = false := h6
 have h7 : hasV x ((7 : Nat) : Int) = false := h7
 rw [hasV_bit h] at h6 h7
 have e1 : (BitVec.ofInt 8 x).toNat = x.toNat := by rw [BitVec.toNat_ofInt]; omega
 rw [BitVec.getLsbD, e1, Nat.testBit_eq_decide_div_mod_eq, decide_eq_false_iff_not] at h6 h7
 omega
theorem allV_tab : ((List.range 7).all fun (n : Nat) => n == 0 || (List.range 8).all fun (u : Nat) => hasV (allV n) u == decide (u < n)) = true := by decide +kernel
theorem hasV_all {n : Int} (h : 1 ≤ n ∧ n ≤ 6) {u : Nat} (hu : u < 8) : hasV (allV n) u = decide ((u : Int) < n) := by
 have h1 := List.all_eq_true.1 allV_tab n.toNat (List.mem_range.2 (by omega))
 have e : ((n.toNat : Nat) : Int) = n := by omega
 rw [e] at h1
 simp only [Bool.or_eq_true, beq_iff_eq] at h1
 rcases h1 with h1 | h1
 ·omega
 ·have := List.all_eq_true.1 h1 u (List.mem_range.2 hu)
  rw [beq_iff_eq] at this
  rw [this]
  congr 1
  exact propext (by omega)
theorem allV_rng (n : Int) : 0 ≤ allV n ∧ allV n < 256 := by
 unfold allV
 simp [IntKind.wrap, IntKind.bits, IntKind.signed]; omega
theorem sub_has {a b : Int} (ha : 0 ≤ a ∧ a < 256) (hb : 0 ≤ b ∧ b < 256) (h : bits BinOp.andNot IntKind.u8 a b = 0) {u : Nat} (hu : hasV a u = true) : hasV b u = true := by
 by_cases hu8 : u < 8
 ·have := hasV_andNot ha hb hu8
  rw [h, hu] at this
  have e0 : hasV 0 u = false := by refine hasV_no.1 ?_; unfold bitOf; rw [Int.zero_ediv]; rfl
  rw [e0] at this
  simpa using this.symm
 ·rw [hasV_over ha (by omega)] at hu; cases hu
theorem sub_of {a b : Int} (ha : 0 ≤ a ∧ a < 256) (hb : 0 ≤ b ∧ b < 256) (h : ∀ u : Nat, u < 8 → hasV a u = true → hasV b u = true) : bits BinOp.andNot IntKind.u8 a b = 0 := by
 refine hasV_ext (bits_rng _ _ _) ⟨by decide, by decide⟩ fun u hu => ?_
 have e0 : hasV 0 u = false := by refine hasV_no.1 ?_; unfold bitOf; rw [Int.zero_ediv]; rfl
 rw [hasV_andNot ha hb hu, e0]
 cases hc : hasV a u with
 | false => rfl
 | true => rw [h u hu hc]; rfl
theorem one8_rng (v : Int) : 0 ≤ one8 v ∧ one8 v < 256 := one8_nn v
theorem runS_rng (m : MixD) (s : Int) : 0 ≤ runS m s ∧ runS m s < 256 := by
 unfold runS runV
 split
 ·exact bits_rng _ _ _
 ·exact one8_nn _
end Go.Proofs.YtdpeoolildjohaaGreatDoor

namespace Go.Proofs.YtdpeoolildjohaaGreatDoor
open Go Go.RowKit
set_option maxRecDepth 100000
set_option maxHeartbeats 8000000
set_option linter.unusedSimpArgs false
set_option linter.unusedVariables false
theorem qstored_fn (t : Tab) : FnSound Tryz.prog 162 [.val true (tabC t)] [] { vals := [(false, [.d (.v (.bool (storedB t.kind)))])] } := by
 refine startW (tm := [(0, _)]) Tryz.func162 rfl Tryz.ntmps162 rfl rfl rfl rfl ?_
 repeat' (first
 |refine wA ?_
 |(refine wC ?_ ?_ <;> intro hc)
 |refine wB ?_ ?_
 |(with_reducible refine JL.block ?_)
 |(with_reducible refine F_at ?_); refine eW (vs := [(_, _)]) Tryz.results162 ?_; (focus (repeat' (first | exact oA | refine oB ?_ | refine oC ?_ ?_ | fail)))
 |exact oM
 |fail)
 all_goals simp [storedB, *]
theorem qrun_fn (m : MixD) (s : Int) (hs : 0 ≤ s ∧ s < m.base.length ∧ s < m.next.length) (hb : 0 ≤ m.base.getD s.toNat 0 ∧ m.base.getD s.toNat 0 ≤ 6) (hn : m.next.getD s.toNat 0 ≤ 6) : FnSound Tryz.prog 163 [.val true (mixC m), .val false [.d (.v (.int .i64 s))]] [] { vals := [(false, [.d (.v (.int .u8 (runS m s)))])] } := by
 refine startW (tm := [(0, _), (1, _)]) Tryz.func163 rfl Tryz.ntmps163 rfl rfl rfl rfl ?_
 repeat' (first
 |refine wA ?_
 |(refine wC ?_ ?_ <;> intro hc)
 |refine wB ?_ ?_
 |(with_reducible refine JL.block ?_)
 |(with_reducible refine F_at ?_); refine eW (vs := [(_, _)]) Tryz.results163 ?_; (focus (repeat' (first | exact oA | refine oB ?_ | refine oC ?_ ?_ | fail)))
 |exact oM
 |fail)
 ·unfold runS runV; rw [if_pos hc]; rfl
 ·unfold runS runV; rw [if_neg hc]; rfl
theorem qvalid_fn (s : StepD) : FnSound Tryz.prog 144 [.val true (stepC s)] [] { vals := [(false, [.d (.v (.bool (stepOK s)))])] } := by
 refine startW (tm := [(0, _)]) Tryz.func144 rfl Tryz.ntmps144 rfl rfl rfl rfl ?_
 repeat' (first
 |refine wA ?_
 |(refine wC ?_ ?_ <;> intro hc)
 |refine wB ?_ ?_
 |(with_reducible refine JL.block ?_)
 |(with_reducible refine F_at ?_); refine eW (vs := [(_, _)]) Tryz.results144 ?_; (focus (repeat' (first | exact oA | refine oB ?_ | refine oC ?_ ?_ | fail)))
 |exact oM
 |fail)
 all_goals (unfold stepOK; first | (rw [eq_comm, decide_eq_true_eq]; omega) | (rw [eq_comm, decide_eq_false_iff_not]; omega) | (congr 1; exact propext (by omega)) | trace_state)
theorem qexists_fn (p : Prob) (s : StepD) (h : 0 ≤ s.idx) : FnSound Tryz.prog 145 [.val true (probC p), .val true (stepC s)] [] { vals := [(false, [.d (.v (.bool (thereB p s)))])] } := by
 refine startW (tm := [(0, _), (1, _)]) Tryz.func145 rfl Tryz.ntmps145 rfl rfl rfl rfl ?_
 repeat' (first
 |refine wA ?_
 |(refine wC ?_ ?_ <;> intro hc)
 |refine wB ?_ ?_
 |(with_reducible refine JL.block ?_)
 |(with_reducible refine F_at ?_); refine eW (vs := [(_, _)]) Tryz.results145 ?_; (focus (repeat' (first | exact oA | refine oB ?_ | refine oC ?_ ?_ | fail)))
 |exact oM
 |fail)
 all_goals (unfold thereB; simp [*])
theorem qcloned_fn (m : MixD) (hf : m.base.length ≤ 12 ∧ m.next.length ≤ 12 ∧ m.held.length ≤ 12) : FnSound Tryz.prog 119 [.val true (mixC m)] [] { vals := [(true, [.own (128, 200), .own (320, 200), .own (512, 200)])], bx := [((128, 200), .sl 3 1 (dInts m.base)), ((320, 200), .sl 3 1 (dInts m.next)), ((512, 200), .sl 75 1 (dSets m.held))] } := by
 refine startO (tm := [(0, _)]) [] Tryz.func119 rfl Tryz.ntmps119 rfl rfl rfl rfl ?_
 repeat' (first
 |(with_reducible refine K_ca 14 ?_); (first
 |refine zS (cloneInts_fn m.base (by omega)) ?_
 |refine zS (cloneInts_fn m.next (by omega)) ?_)
 |(with_reducible refine K_ca 95 ?_); refine zS (cloneSets_fn m.held (by omega)) ?_
 |refine wA ?_
 |(refine wC ?_ ?_ <;> intro hc)
 |refine wB ?_ ?_
 |(with_reducible refine JL.block ?_)
 |(with_reducible refine FO_at ?_); refine eO (vs := [(_, _)]) Tryz.results119 ?_
 |exact oM
 |fail)
 kernel_rfl
end Go.Proofs.YtdpeoolildjohaaGreatDoor

namespace Go.Proofs.YtdpeoolildjohaaGreatDoor
open Go Go.RowKit
set_option maxRecDepth 100000
set_option maxHeartbeats 8000000
set_option linter.unusedSimpArgs false
set_option linter.unusedVariables false
def mixIO : List C := [.own (1000, 0), .own (1001, 0), .own (1002, 0)]
def mixBx (m : MixD) : List (Key × Box) := [((1000, 0), .sl 3 1 (dInts m.base)), ((1001, 0), .sl 3 1 (dInts m.next)), ((1002, 0), .sl 75 1 (dSets m.held))]
theorem qstart_no (p : Prob) (m : MixD) (s : StepD) (hi : 0 ≤ s.idx ∧ s.idx < m.base.length ∧ s.idx < m.next.length) (hn : 0 ≤ m.next.getD s.idx.toNat 0 ∨ s.ver = m.base.getD s.idx.toNat 0) : FnSound Tryz.prog 157 [.val true (probC p), .io 37 mixIO, .val true (stepC s)] (mixBx m) { vals := [(false, [.d (.v (.bool false))])], ios := [mixIO], bx := mixBx m } := by
 refine startO (tm := [(0, _), (1, _), (2, _)]) [((1, 0), some (.st 37 [.own (1000, 0), .own (1001, 0), .own (1002, 0)])), ((1000, 0), some (.sl 3 1 (dInts m.base))), ((1001, 0), some (.sl 3 1 (dInts m.next))), ((1002, 0), some (.sl 75 1 (dSets m.held)))] Tryz.func157 rfl Tryz.ntmps157 rfl rfl rfl rfl ?_
 repeat' (first
 |refine wA ?_
 |(refine wC ?_ ?_ <;> intro hc)
 |refine wB ?_ ?_
 |(with_reducible refine JL.block ?_)
 |(with_reducible refine FO_at ?_); refine eO (vs := [(_, _)]) Tryz.results157 ?_
 |exact oM
 |fail)
 all_goals first
  | kernel_rfl
  | (exfalso; omega)
  | trace_state
theorem qstart_yes (p : Prob) (m : MixD) (s : StepD) (hi : 0 ≤ s.idx ∧ s.idx < m.base.length ∧ s.idx < m.next.length) (hv : 0 ≤ s.ver ∧ s.ver ≤ 6) (hl : m.held.length = p.tabs.length) (ht : p.tabs.length ≤ 12) (hu : u8s m.held) (hn : ¬ (0 ≤ m.next.getD s.idx.toNat 0 ∨ s.ver = m.base.getD s.idx.toNat 0)) : FnSound Tryz.prog 157 [.val true (probC p), .io 37 mixIO, .val true (stepC s)] (mixBx m) { vals := [(false, [.d (.v (.bool true))])], ios := [mixIO], bx := mixBx (startedM p m s) } := by
 have hwl := @heldW_len p s.idx s.ver m.held
 refine startO (tm := [(0, _), (1, _), (2, _)]) [((1, 0), some (.st 37 [.own (1000, 0), .own (1001, 0), .own (1002, 0)])), ((1000, 0), some (.sl 3 1 (dInts m.base))), ((1001, 0), some (.sl 3 1 (dInts m.next))), ((1002, 0), some (.sl 75 1 (dSets m.held)))] Tryz.func157 rfl Tryz.ntmps157 rfl rfl rfl rfl ?_
 repeat' (first
 |(with_reducible refine K_ca 162 ?_); refine zC (qstored_fn (p.tabs.getD k nilT)) ?_
 |(with_reducible refine blk_at (id := 0) ?_); ((with_reducible refine JL.loopW 0 599 (fun (k : Nat) tm => (43, .one false [.d (.v (.int .i64 ((k : Int))))]) :: tm) (fun (k : Nat) bo => ((1002, 0), some (.sl 75 1 (dSets (heldW p s.idx s.ver m.held k)))) :: bo) (fun (k : Nat) => k ≤ p.tabs.length) (fun (k : Nat) => p.tabs.length - k) (0) ?_ (fun k hk => have hwk := @hwl k; ?_) ?_); (focus (apply SubW [] rfl ?_ ?_ rfl ?_; (repeat' (first | exact kA | refine kB ?_ | refine kC ?_ ?_ | exact kD | fail)))))
 |((with_reducible refine round_next (i := k) (k + 1) ?_ ?_ ?_); (focus (apply SubW [] rfl ?_ ?_ rfl ?_; (repeat' (first | exact kA | refine kB ?_ | refine kC ?_ ?_ | exact kD | fail)))))
 |refine wA ?_
 |(refine wC ?_ ?_ <;> intro hc)
 |refine wB ?_ ?_
 |(with_reducible refine JL.block ?_)
 |(with_reducible refine FO_at ?_); refine eO (vs := [(_, _)]) Tryz.results157 ?_
 |exact oM
 |fail)
 all_goals first
  | (rw [heldW_0]; done)
  | (rw [Int.toNat_natCast]; exact congrArg dSets (heldW_set (by omega) ⟨by assumption, decide_eq_true hc⟩))
  | (rw [heldW_keep (by omega) (fun a => hc (of_decide_eq_true a.2))]; done)
  | (rw [heldW_keep (by omega) (fun a => hc a.1)]; done)
  | (rw [heldW_all (by omega)]; kernel_rfl)
  | (exfalso; omega)
  | trace_state
noncomputable def ann0 : Ann := { own := fun _ => false, lend := fun _ => false, cl := fun _ s => s, ext := fun _ _ _ => none }
theorem ann0_ok (n : Nat) : CallOk Tryz.prog (acall Tryz.prog ann0 n) := acall_ok (by kernel_rfl) (fun _ _ _ _ h => by cases h) (fun _ _ _ _ _ _ _ _ _ h => h) n
noncomputable def tzChk (n : Nat) : Bool := match acall Tryz.prog ann0 3 165 [.val false [.d (.v (.int .u8 (n : Int)))]] [] with
 | some { vals := [(false, [.d (.v (.int .i64 z))])], ios := [], bx := [], kp := false } => decide (z = (tz8 n : Int))
 | _ => false
theorem tz_chk : ((List.range 64).all fun n => n == 0 || tzChk n) = true := by kernel_rfl
theorem tz_fn (x : Int) (h : 0 < x ∧ x < 64) : FnSound Tryz.prog 165 [.val false [.d (.v (.int .u8 x))]] [] { vals := [(false, [.d (.v (.int .i64 (tz8 x)))])] } := by
 have h1 := List.all_eq_true.1 tz_chk x.toNat (List.mem_range.2 (by omega))
 simp only [Bool.or_eq_true, beq_iff_eq] at h1
 have h2 := h1.resolve_left (by omega)
 unfold tzChk at h2
 have e : ((x.toNat : Nat) : Int) = x := by omega
 rw [e] at h2
 split at h2
 ·rename_i z hz
  have := of_decide_eq_true h2
  subst this
  exact ann0_ok 3 _ _ _ _ hz
 ·cases h2
theorem hasV_hi {x : Int} (h : 0 ≤ x ∧ x < 64) {u : Nat} (hu : 6 ≤ u) : hasV x u = false := by
 rw [hasV_bit ⟨by omega, by omega⟩, BitVec.getLsbD]
 apply Nat.testBit_lt_two_pow
 have e1 : (BitVec.ofInt 8 x).toNat = x.toNat := by rw [BitVec.toNat_ofInt]; omega
 rw [e1]
 exact Nat.lt_of_lt_of_le (show x.toNat < 2 ^ 6 by omega) (Nat.pow_le_pow_right (by omega) hu)
theorem rewr_fn (t : Tab) (x b : Int) (hx : 0 ≤ x ∧ x < 64) (hr : ∀ u : Nat, hasV x u = true → u < t.rw.length ∧ 0 ≤ b ∧ b < ((t.rw.getD u []).length : Int)) : FnSound Tryz.prog 164 [.val true (tabC t), .val false [.d (.v (.int .u8 x))], .val false [.d (.v (.int .i64 b))]] [] { vals := [(false, [.d (.v (.bool (rewL (fun u => rwAt t u b) x)))])] } := by
 refine startW (tm := [(0, _), (1, _), (2, _)]) Tryz.func164 rfl Tryz.ntmps164 rfl rfl rfl rfl ?_
 repeat' (first
 |(with_reducible refine rgn 4 400 ?_ ?_); exact rfl
 |(with_reducible refine rgn 5 500 ?_ ?_); exact rfl
 |(with_reducible refine rgn 3 600 ?_ ?_); exact rfl
 |(with_reducible refine K_ca 165 ?_); refine zC (tz_fn y (by omega)) ?_
 |(with_reducible refine blk_at (id := 0) ?_); ((with_reducible refine JL.loopW 0 299 (fun (y : Int) tm => (7, .one false [.d (.v (.int .u8 (y)))]) :: tm) (fun (y : Int) bo => bo) (fun (y : Int) => (0 ≤ y ∧ y < 64) ∧ (∀ u : Nat, hasV y u = true → u < t.rw.length ∧ 0 ≤ b ∧ b < ((t.rw.getD u []).length : Int)) ∧ rewL (fun u => rwAt t u b) y = rewL (fun u => rwAt t u b) x) (fun (y : Int) => y.toNat) (x) ?_ (fun y hy => have htz := @tz_at y; have hrt := hy.2.1 (tz8 y); ?_) ?_); (focus (apply SubW [] rfl ?_ ?_ rfl ?_; (repeat' (first | exact kA | refine kB ?_ | refine kC ?_ ?_ | exact kD | fail)))))
 |((with_reducible refine round_next (i := y) (clr8 y) ?_ ?_ ?_); (focus (apply SubW [] rfl ?_ ?_ rfl ?_; (repeat' (first | exact kA | refine kB ?_ | refine kC ?_ ?_ | exact kD | fail)))))
 |refine wA ?_
 |(refine wC ?_ ?_ <;> intro hc)
 |refine wB ?_ ?_
 |(with_reducible refine JL.block ?_)
 |(with_reducible refine F_at ?_); refine eW (vs := [(_, _)]) Tryz.results164 ?_; (focus (repeat' (first | exact oA | refine oB ?_ | refine oC ?_ ?_ | fail)))
 |exact oM
 |fail)
 all_goals first
  | exact (hrt (htz (by omega)).2.1).1
  | exact (hrt (htz (by omega)).2.1).2
  | (rw [← hy.2.2, rewL_no (x := y) (by omega) (by simpa [rwAt] using hc)]; done)
  | (rw [← hy.2.2, hc]; exact rewL_0.symm)
  | exact ⟨hx, hr, rfl⟩
  | rfl
  | (have h3 := (htz (by omega)).2.2.1
     refine ⟨by omega, fun u hu => ?_, ?_⟩
     ·have h4 := (htz (by omega)).2.2.2 u
      by_cases h6 : u < 6
      ·rw [h4 h6, Bool.and_eq_true] at hu
       exact hy.2.1 u hu.1
      ·rw [hasV_hi (by omega) (by omega)] at hu; cases hu
     ·rw [rewL_yes (by omega) (by simpa [rwAt] using hc)]; exact hy.2.2)
  | trace_state
theorem held_at {p : Prob} {m : MixD} (h : mixErr p m = 0) {i : Nat} (hi : i < p.tabs.length) : heldB p m (p.tabs.getD i nilT) (m.held.getD i 0) = false := by
 have hm := mixIn_of h
 unfold mixErr at h
 rw [if_neg (by simpa using hm.vp), if_neg (by have := hm.lb; have := hm.ln; have := hm.lh; omega)] at h
 split at h
 ·rename_i h1; exact absurd h h1
 ·have := firstErr_zero.1 h i hi
  rw [Nat.zero_add] at this
  unfold heldI at this
  split at this
  ·cases this
  ·rename_i h2; simpa using h2
end Go.Proofs.YtdpeoolildjohaaGreatDoor

