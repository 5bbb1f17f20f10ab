/- Rules of runs and contracts of functions, for the claims of one seat. -/
import Derived.Test.YtngjhkgcfabciaaGreatQA15
import Derived.Test.YtngjhkgcfabciaaGreatQA20
import Derived.Test.YtngjhkgcfabciaaGreatQA21
namespace Go.Proofs.YtngjhkgcfabciaaGreat
open Go Go.RowKit
set_option linter.unusedSimpArgs false
set_option linter.unusedVariables false
theorem wrap_u8 (n : Int) : 0 ≤ IntKind.u8.wrap n ∧ IntKind.u8.wrap n < 256 := by
 simp only [IntKind.wrap, IntKind.bits, IntKind.signed]
 simp
 omega
theorem bits_u8 (op : BinOp) (a b : Int) : 0 ≤ bits op IntKind.u8 a b ∧ bits op IntKind.u8 a b < 256 := wrap_u8 _
theorem runV_u8 (a b : Int) : 0 ≤ runV a b ∧ runV a b < 256 := by
 unfold runV
 split
 ·exact bits_u8 _ _ _
 ·exact wrap_u8 _
structure MixG (p : Prob) (m : MixD) : Prop where
 inn : MixIn p m
 u : u8s m.held
theorem mem_set {α : Type} {l : List α} {k : Nat} {x y : α} (h : y ∈ l.set k x) : y ∈ l ∨ y = x := List.mem_or_eq_of_mem_set h
theorem u8_get {l : List Int} (h : u8s l) (k : Nat) : 0 ≤ l.getD k 0 ∧ l.getD k 0 < 256 := by
 by_cases hk : k < l.length
 ·exact h _ (int_getD_mem hk)
 ·rw [List.getD_eq_getElem?_getD, List.getElem?_eq_none (by omega)]; decide
theorem after_g {p : Prob} {m x : MixD} {s : StepD} (hm : MixG p m) (hs : StepAt p s) (h : afterP p m s = some x) : MixG p x := by
 obtain ⟨hi, hu⟩ := hm
 by_cases k1 : s.kind = 1
 ·rw [after1 k1] at h
  split at h
  ·cases h
  ·cases h
   have hv := hs.ver k1
   refine ⟨⟨hi.vp, hi.lb, ?_, ?_, fun i h => ⟨(hi.rng i h).1, ?_⟩⟩, ?_⟩
   ·simp only [startedM]; rw [set_len]; exact hi.ln
   ·simp only [startedM, List.length_map, List.length_range]; exact hi.lh
   ·simp only [startedM]
    rw [getDi_set]
    split
    ·rename_i e; rw [← e.1]; omega
    ·exact (hi.rng i h).2
   ·intro y hy
    simp only [startedM, List.mem_map, List.mem_range] at hy
    obtain ⟨j, hj, rfl⟩ := hy
    unfold heldUp
    split
    ·exact bits_u8 _ _ _
    ·exact u8_get hu j
 ·by_cases k2 : s.kind = 2
  ·rw [after2 k2] at h
   split at h
   ·cases h
   ·rename_i hc
    cases h
    have hv := hs.svc (by omega)
    have h0 := hs.nn
    have hr := hi.rng s.idx.toNat (by omega)
    refine ⟨⟨hi.vp, by rw [set_len]; exact hi.lb, by rw [set_len]; exact hi.ln, hi.lh, fun i h => ⟨?_, ?_⟩⟩, hu⟩
    ·rw [getDi_set]
     split
     ·rename_i e; rw [← e.1]; omega
     ·exact (hi.rng i h).1
    ·rw [getDi_set]
     have := hi.rng i h
     split
     ·omega
     ·exact this.2
  ·by_cases k3 : s.kind = 3
   ·rw [after3 k3] at h
    split at h
    ·cases h
    ·split at h
     ·cases h
     ·split at h
      ·cases h
      ·cases h
       refine ⟨⟨hi.vp, hi.lb, hi.ln, by rw [set_len]; exact hi.lh, hi.rng⟩, fun y hy => ?_⟩
       rcases mem_set hy with h1 | rfl
       ·exact hu _ h1
       ·exact runV_u8 _ _
   ·rw [after4 k1 k2 k3] at h
    split at h
    ·cases h
    ·cases h
     refine ⟨⟨hi.vp, hi.lb, by rw [set_len]; exact hi.ln, hi.lh, fun i h => ⟨(hi.rng i h).1, ?_⟩⟩, hu⟩
     rw [getDi_set]
     have := hi.rng i h
     split
     ·omega
     ·exact this.2
theorem start_g {p : Prob} (h : vpErr p = 0) : MixG p (startM p) := by
 have hv := vp_all h
 refine ⟨⟨h, by simp only [startM]; exact hv.2.2.1, by simp [startM], by simp [startM], fun i hi => ⟨by simp only [startM]; exact (hv.2.2.2.2 i hi).2.1, ?_⟩⟩, fun y hy => ?_⟩
 ·have h1 := (hv.2.2.2.2 i hi).1
  have e : (List.replicate p.vs.length (-1 : Int)).getD i 0 = -1 := by rw [List.getD_eq_getElem?_getD, List.getElem?_replicate, if_pos hi]; rfl
  simp only [startM]
  rw [e]; omega
 ·simp only [startM, List.mem_map] at hy
  obtain ⟨t, ht, rfl⟩ := hy
  unfold startHeld
  split
  ·exact wrap_u8 _
  ·decide
theorem step_at {p : Prob} {m : MixD} {s : StepD} (h : s ∈ stepsP p m) : StepAt p s ∧ afterP p m s = some (applyP p m s).1 ∧ 1 ≤ s.kind ∧ s.kind ≤ 3 := by
 obtain ⟨h1, h2⟩ := steps_mem h
 obtain ⟨a1, a2, a3, a4⟩ := apply_after h1
 exact ⟨stepAt_of a3 a4, a1, h2⟩
def NodesG (p : Prob) (l : List NodeD) : Prop := ∀ k, k < l.length → MixG p (l.getD k nilN).mix
theorem nodesG_add {p : Prob} {l : List NodeD} {n : NodeD} (h : NodesG p l) (hn : MixG p n.mix) : NodesG p (l ++ [n]) := by
 intro k hk
 by_cases e : k < l.length
 ·rw [getD_app e]; exact h k e
 ·have : k = l.length := by simp at hk; omega
  subst this
  rw [getD_last]; exact hn
theorem after_some_g {p : Prob} {m : MixD} {s : StepD} (hm : MixG p m) (h : s ∈ stepsP p m) : MixG p ((afterP p m s).getD nilM) := by
 obtain ⟨h1, h2, _⟩ := step_at h
 rw [h2]
 exact after_g hm h1 h2
theorem getD_mem {α : Type} {l : List α} {k : Nat} {d : α} (h : k < l.length) : l.getD k d ∈ l := by
 rw [List.getD_eq_getElem?_getD, List.getElem?_eq_getElem h]; exact List.getElem_mem h
theorem dropD_cons {α : Type} {l : List α} {k : Nat} {d : α} (h : k < l.length) : l.drop k = l.getD k d :: l.drop (k + 1) := by
 rw [List.getD_eq_getElem?_getD, List.getElem?_eq_getElem h, List.drop_eq_getElem_cons h]; rfl
theorem find_at {m : MixD} : ∀ {l : List NodeD} {k i : Nat}, k < l.length → (∀ j, j < k → ¬ (l.getD j nilN).mix = m) → (l.getD k nilN).mix = m → findFrom m l i = ((i + k : Nat) : Int)
 | n :: r, 0, i, _, _, h => by
  have h : n.mix = m := h
  unfold findFrom; rw [if_pos h]; rfl
 | n :: r, k + 1, i, hk, h0, h => by
  have h1 : ¬ n.mix = m := h0 0 (by omega)
  unfold findFrom
  rw [if_neg h1, find_at (k := k) (by simpa using hk) (fun j hj => h0 (j + 1) (by omega)) h]
  congr 1; omega
theorem find_none {m : MixD} : ∀ {l : List NodeD} {i : Nat}, (∀ j, j < l.length → ¬ (l.getD j nilN).mix = m) → findFrom m l i = -1
 | [], _, _ => rfl
 | n :: r, i, h0 => by
  have h1 : ¬ n.mix = m := h0 0 (by simp)
  unfold findFrom
  rw [if_neg h1, find_none fun j hj => h0 (j + 1) (by simpa using hj)]
theorem steps_len (p : Prob) (m : MixD) (hp : vpErr p = 0) : (stepsP p m).length ≤ 216 := by
 have hv := vp_all hp
 have gen : ∀ {f : Nat → List StepD} {c : Nat} (n : Nat), (∀ i, (f i).length ≤ c) → ((List.range n).flatMap f).length ≤ n * c := by
  intro f c n h
  induction n with
  | zero => simp
  | succ n ih =>
   rw [range_fm, List.length_append, Nat.succ_mul]
   have := h n
   omega
 unfold stepsP
 have h1 := gen (f := fun (kind : Nat) => (List.range (max p.vs.length p.tabs.length)).flatMap fun (i : Nat) => (List.range 6).flatMap fun (v : Nat) => if (applyP p m ⟨(kind : Int) + 1, i, v⟩).2 = 0 then [⟨(kind : Int) + 1, i, v⟩] else []) (c := 72) 3 fun kind => by
  have h2 := gen (f := fun (i : Nat) => (List.range 6).flatMap fun (v : Nat) => if (applyP p m ⟨(kind : Int) + 1, i, v⟩).2 = 0 then [(⟨(kind : Int) + 1, i, v⟩ : StepD)] else []) (c := 6) (max p.vs.length p.tabs.length) fun i => by
   have h3 := gen (f := fun (v : Nat) => if (applyP p m ⟨(kind : Int) + 1, i, v⟩).2 = 0 then [(⟨(kind : Int) + 1, i, v⟩ : StepD)] else []) (c := 1) 6 fun v => by
    split <;> simp
   simpa using h3
  have : max p.vs.length p.tabs.length ≤ 12 := by omega
  have : max p.vs.length p.tabs.length * 6 ≤ 72 := by omega
  exact Nat.le_trans h2 this
 simpa using h1
def nx3 (p : Prob) (i : Nat) (l : List NodeD) (s : StepD) : List NodeD := if robustP p ((afterP p (l.getD i nilN).mix s).getD nilM) = true ∧ findN l ((afterP p (l.getD i nilN).mix s).getD nilM) < 0 then l ++ [⟨(afterP p (l.getD i nilN).mix s).getD nilM, i, s⟩] else l
theorem nx3_yes {p : Prob} {i : Nat} {l : List NodeD} {s : StepD} (h : robustP p ((afterP p (l.getD i nilN).mix s).getD nilM) = true) (h2 : findN l ((afterP p (l.getD i nilN).mix s).getD nilM) < 0) : nx3 p i l s = l ++ [⟨(afterP p (l.getD i nilN).mix s).getD nilM, i, s⟩] := by unfold nx3; rw [if_pos ⟨h, h2⟩]
theorem nx3_no {p : Prob} {i : Nat} {l : List NodeD} {s : StepD} (h : robustP p ((afterP p (l.getD i nilN).mix s).getD nilM) = false ∨ ¬ findN l ((afterP p (l.getD i nilN).mix s).getD nilM) < 0) : nx3 p i l s = l := by
 unfold nx3
 rw [if_neg]
 rintro ⟨a, b⟩
 rcases h with h | h
 ·rw [h] at a; cases a
 ·exact h b
theorem spaceI_cons {p : Prob} {most i : Nat} {s : StepD} {r : List StepD} {l : List NodeD} : spaceI p most i (s :: r) l = if most < (nx3 p i l s).length then none else spaceI p most i r (nx3 p i l s) := rfl
theorem spaceI_at {p : Prob} {most i k : Nat} {ss : List StepD} {l : List NodeD} (h : k < ss.length) : spaceI p most i (ss.drop k) l = if most < (nx3 p i l (ss.getD k nilS)).length then none else spaceI p most i (ss.drop (k + 1)) (nx3 p i l (ss.getD k nilS)) := by
 rw [dropD_cons (d := nilS) h, spaceI_cons]
theorem spaceG_at {p : Prob} {most i n : Nat} {l : List NodeD} (hi : i < l.length) (hn : i ≤ most) : spaceG p most (most + 2 - i) i l = match spaceI p most i (stepsP p (l.getD i nilN).mix) l with
    | none => none
    | some l' => spaceG p most (most + 2 - (i + 1)) (i + 1) l' := by
 rw [show most + 2 - i = (most + 2 - (i + 1)) + 1 by omega]
 show (if i < l.length then _ else _) = _
 rw [if_pos hi]
 cases spaceI p most i (stepsP p (l.getD i nilN).mix) l <;> rfl
theorem spaceG_end {p : Prob} {most i : Nat} {l : List NodeD} (hi : l.length ≤ i) (hn : i ≤ most + 1) : spaceG p most (most + 2 - i) i l = some l := by
 rw [show most + 2 - i = (most + 2 - (i + 1)) + 1 by omega]
 show (if i < l.length then _ else _) = _
 rw [if_neg (by omega)]
theorem nx3_or {p : Prob} {i : Nat} {l : List NodeD} {s : StepD} : nx3 p i l s = l ∨ nx3 p i l s = l ++ [⟨(afterP p (l.getD i nilN).mix s).getD nilM, i, s⟩] := by
 unfold nx3; split
 ·exact .inr rfl
 ·exact .inl rfl
theorem sp_inv {p : Prob} {most i k : Nat} {mx : MixD} {l : List NodeD} {q : Option (List NodeD)} (hg : MixG p mx) (hk : k < (stepsP p mx).length) (h1 : NodesG p l) (h2 : i < l.length) (h3 : (l.getD i nilN).mix = mx) (h4 : spaceI p most i ((stepsP p mx).drop k) l = q) (hn : ¬ most < (nx3 p i l ((stepsP p mx).getD k nilS)).length) :
    k + 1 ≤ (stepsP p mx).length ∧ NodesG p (nx3 p i l ((stepsP p mx).getD k nilS)) ∧ i < (nx3 p i l ((stepsP p mx).getD k nilS)).length ∧ (nx3 p i l ((stepsP p mx).getD k nilS)).length ≤ most ∧ ((nx3 p i l ((stepsP p mx).getD k nilS)).getD i nilN).mix = mx ∧ spaceI p most i ((stepsP p mx).drop (k + 1)) (nx3 p i l ((stepsP p mx).getD k nilS)) = q := by
 refine ⟨by omega, ?_, ?_, by omega, ?_, ?_⟩
 ·rcases nx3_or (p := p) (i := i) (l := l) (s := (stepsP p mx).getD k nilS) with e | e
  ·rw [e]; exact h1
  ·rw [e]; exact nodesG_add h1 (by show MixG p _; rw [h3]; exact after_some_g hg (getD_mem hk))
 ·rcases nx3_or (p := p) (i := i) (l := l) (s := (stepsP p mx).getD k nilS) with e | e
  ·rw [e]; exact h2
  ·rw [e]; simp; omega
 ·rcases nx3_or (p := p) (i := i) (l := l) (s := (stepsP p mx).getD k nilS) with e | e
  ·rw [e]; exact h3
  ·rw [e, getD_app h2]; exact h3
 ·rw [← h4, spaceI_at hk, if_neg hn]
theorem sp_none {p : Prob} {most i k : Nat} {m : MixD} {l0 l : List NodeD} (hk : k < (stepsP p (l0.getD i nilN).mix).length) (hi : i < l0.length) (hm : i ≤ most) (h4 : spaceI p most i ((stepsP p (l0.getD i nilN).mix).drop k) l = spaceI p most i (stepsP p (l0.getD i nilN).mix) l0) (h5 : spaceG p most (most + 2 - i) i l0 = spaceP p m most) (hn : most < (nx3 p i l ((stepsP p (l0.getD i nilN).mix).getD k nilS)).length) : spaceP p m most = none := by
 rw [← h5, spaceG_at (n := 0) hi hm, ← h4, spaceI_at hk, if_pos hn]
theorem sp_next {p : Prob} {most i k : Nat} {m : MixD} {l0 l : List NodeD} (hk : (stepsP p (l0.getD i nilN).mix).length ≤ k) (hi : i < l0.length) (hm : i ≤ most) (h4 : spaceI p most i ((stepsP p (l0.getD i nilN).mix).drop k) l = spaceI p most i (stepsP p (l0.getD i nilN).mix) l0) (h5 : spaceG p most (most + 2 - i) i l0 = spaceP p m most) : spaceG p most (most + 2 - (i + 1)) (i + 1) l = spaceP p m most := by
 rw [← h5, spaceG_at (n := 0) hi hm, ← h4, List.drop_eq_nil_of_le hk]
 rfl
theorem way_next {p : Prob} {m0 : MixD} {l : List NodeD} (hN : NodesOK p m0 l) {k : Nat} {acc : List StepD} (hk : k < l.length) (hc : 0 ≤ (l.getD k nilN).before) : (l.getD k nilN).before.toNat < k ∧ wayG l ((l.getD k nilN).before.toNat + 1) (((l.getD k nilN).before.toNat : Nat) : Int) ((l.getD k nilN).by_ :: acc) = wayG l (k + 1) (k : Int) acc := by
 by_cases h0 : k = 0
 ·subst h0; rw [hN.first] at hc; simp at hc
 ·obtain ⟨j, h1, h2, h3, h4, h5⟩ := hN.up k (by omega) hk
  have e : wayG l (k + 1) (k : Int) acc = wayG l k (l.getD k nilN).before ((l.getD k nilN).by_ :: acc) := by
   show (if 0 ≤ (l.getD (k : Int).toNat nilN).before then _ else _) = _
   rw [Int.toNat_natCast, if_pos hc]
  rw [e, h2, Int.toNat_natCast]
  exact ⟨h1, wayG_fuel hN _ (by omega) (by omega) (by omega)⟩
theorem way_end {l : List NodeD} {k : Nat} {acc : List StepD} (hc : ¬ 0 ≤ (l.getD k nilN).before) : wayG l (k + 1) (k : Int) acc = acc := by
 show (if 0 ≤ (l.getD (k : Int).toNat nilN).before then _ else _) = _
 rw [Int.toNat_natCast, if_neg hc]
end Go.Proofs.YtngjhkgcfabciaaGreat

namespace Go.Proofs.YtngjhkgcfabciaaGreat
open Go Go.RowKit
set_option maxRecDepth 100000
set_option maxHeartbeats 8000000
set_option linter.unusedSimpArgs false
set_option linter.unusedVariables false
theorem apply0_fn (p : Prob) (m : MixD) (s : StepD) (h : ¬ mixErr p m = 0) : FnSound Tryz.prog 101 [.val true (probC p), .val true (mixC m), .val true (stepC s)] [] { vals := [(true, mixC nilM), (false, [.d (.v (.int .i64 (mixErr p m)))])] } := by
 refine startW (tm := [(0, _), (1, _), (2, _)]) Tryz.func101 rfl Tryz.ntmps101 rfl rfl rfl rfl ?_
 repeat' (first
 |(with_reducible refine K_ca 80 ?_); refine zC (mixValid_fn p m) ?_
 |(with_reducible refine K_ca 115 ?_); refine zC (stepValid_fn s) ?_
 |(with_reducible refine K_ca 78 ?_); refine zC (after_fn p m s (mixIn_of (by assumption)) (stepAt_of (by assumption) (by assumption)) (by omega)) ?_
 |refine wA ?_
 |(refine wC ?_ ?_ <;> intro hc)
 |refine wB ?_ ?_
 |(with_reducible refine JL.block ?_)
 |(with_reducible refine F_at ?_); refine eW (vs := [(_, _), (_, _)]) Tryz.results101 ?_; (focus (repeat' (first | exact oA | refine oB ?_ | refine oC ?_ ?_ | fail)))
 |exact oM
 |fail)
 all_goals first | rfl | exact absurd hc h | exact absurd (by assumption) h
theorem apply1_fn (p : Prob) (m : MixD) (s : StepD) (h : mixErr p m = 0) (hs : stepOK s = false) : FnSound Tryz.prog 101 [.val true (probC p), .val true (mixC m), .val true (stepC s)] [] { vals := [(true, mixC nilM), (false, [.d (.v (.int .i64 1))])] } := by
 have hv := stepValid_fn s
 rw [hs] at hv
 refine startW (tm := [(0, _), (1, _), (2, _)]) Tryz.func101 rfl Tryz.ntmps101 rfl rfl rfl rfl ?_
 repeat' (first
 |(with_reducible refine K_ca 80 ?_); refine zC (mixValidOK_fn h) ?_
 |(with_reducible refine K_ca 115 ?_); refine zC (hv) ?_
 |refine wA ?_
 |(refine wC ?_ ?_ <;> intro hc)
 |refine wB ?_ ?_
 |(with_reducible refine JL.block ?_)
 |(with_reducible refine F_at ?_); refine eW (vs := [(_, _), (_, _)]) Tryz.results101 ?_; (focus (repeat' (first | exact oA | refine oB ?_ | refine oC ?_ ?_ | fail)))
 |exact oM
 |fail)
 all_goals rfl
theorem apply2_fn (p : Prob) (m : MixD) (s : StepD) (h : mixErr p m = 0) (hs : stepOK s = true) (ht : thereB p s = false) : FnSound Tryz.prog 101 [.val true (probC p), .val true (mixC m), .val true (stepC s)] [] { vals := [(true, mixC nilM), (false, [.d (.v (.int .i64 4))])] } := by
 have hv := stepValid_fn s
 rw [hs] at hv
 have h2 : 0 ≤ s.idx := by simp only [stepOK, decide_eq_true_eq] at hs; omega
 have h3 : ¬ ((s.kind = 3 → s.idx < p.tabs.length) ∧ (¬ s.kind = 3 → s.idx < p.vs.length) ∧ (s.kind = 1 → s.ver < p.vs.getD s.idx.toNat 0)) := by
  intro ⟨a, b, c⟩
  have : thereB p s = true := by
   unfold thereB
   split
   ·simp; omega
   ·simp only [Bool.and_eq_true, Bool.or_eq_true, decide_eq_true_eq]
    by_cases k1 : s.kind = 1
    ·exact ⟨by omega, .inr (c k1)⟩
    ·exact ⟨by omega, .inl k1⟩
  rw [ht] at this; cases this
 refine startW (tm := [(0, _), (1, _), (2, _)]) Tryz.func101 rfl Tryz.ntmps101 rfl rfl rfl rfl ?_
 repeat' (first
 |(with_reducible refine K_ca 80 ?_); refine zC (mixValidOK_fn h) ?_
 |(with_reducible refine K_ca 115 ?_); refine zC (hv) ?_
 |refine wA ?_
 |(refine wC ?_ ?_ <;> intro hc)
 |refine wB ?_ ?_
 |(with_reducible refine JL.block ?_)
 |(with_reducible refine F_at ?_); refine eW (vs := [(_, _), (_, _)]) Tryz.results101 ?_; (focus (repeat' (first | exact oA | refine oB ?_ | refine oC ?_ ?_ | fail)))
 |exact oM
 |fail)
 all_goals first | rfl | (exfalso; omega)
theorem apply3_fn (p : Prob) (m : MixD) (s : StepD) (h : mixErr p m = 0) (hs : stepOK s = true) (ht : thereB p s = true) (hn : afterP p m s = none) : FnSound Tryz.prog 101 [.val true (probC p), .val true (mixC m), .val true (stepC s)] [] { vals := [(true, mixC nilM), (false, [.d (.v (.int .i64 11))])] } := by
 have hv := stepValid_fn s
 rw [hs] at hv
 have hk : 1 ≤ s.kind ∧ s.kind ≤ 4 := by simp only [stepOK, decide_eq_true_eq] at hs; omega
 have hat := stepAt_of hs ht
 have ha := after_fn p m s (mixIn_of h) hat hk
 rw [hn] at ha
 have h1 := hat.nn; have h2 := hat.tab; have h3 := hat.svc; have h4 := hat.ver
 refine startW (tm := [(0, _), (1, _), (2, _)]) Tryz.func101 rfl Tryz.ntmps101 rfl rfl rfl rfl ?_
 repeat' (first
 |(with_reducible refine K_ca 80 ?_); refine zC (mixValidOK_fn h) ?_
 |(with_reducible refine K_ca 115 ?_); refine zC (hv) ?_
 |(with_reducible refine K_ca 78 ?_); refine zC (ha) ?_
 |refine wA ?_
 |(refine wC ?_ ?_ <;> intro hc)
 |refine wB ?_ ?_
 |(with_reducible refine JL.block ?_)
 |(with_reducible refine F_at ?_); refine eW (vs := [(_, _), (_, _)]) Tryz.results101 ?_; (focus (repeat' (first | exact oA | refine oB ?_ | refine oC ?_ ?_ | fail)))
 |exact oM
 |fail)
 all_goals first | rfl | (exfalso; omega)
theorem apply4_fn (p : Prob) (m x : MixD) (s : StepD) (h : mixErr p m = 0) (hs : stepOK s = true) (ht : thereB p s = true) (hn : afterP p m s = some x) : FnSound Tryz.prog 101 [.val true (probC p), .val true (mixC m), .val true (stepC s)] [] { vals := [(true, mixC x), (false, [.d (.v (.int .i64 0))])] } := by
 have hv := stepValid_fn s
 rw [hs] at hv
 have hk : 1 ≤ s.kind ∧ s.kind ≤ 4 := by simp only [stepOK, decide_eq_true_eq] at hs; omega
 have hat := stepAt_of hs ht
 have ha := after_fn p m s (mixIn_of h) hat hk
 rw [hn] at ha
 have h1 := hat.nn; have h2 := hat.tab; have h3 := hat.svc; have h4 := hat.ver
 refine startW (tm := [(0, _), (1, _), (2, _)]) Tryz.func101 rfl Tryz.ntmps101 rfl rfl rfl rfl ?_
 repeat' (first
 |(with_reducible refine K_ca 80 ?_); refine zC (mixValidOK_fn h) ?_
 |(with_reducible refine K_ca 115 ?_); refine zC (hv) ?_
 |(with_reducible refine K_ca 78 ?_); refine zC (ha) ?_
 |refine wA ?_
 |(refine wC ?_ ?_ <;> intro hc)
 |refine wB ?_ ?_
 |(with_reducible refine JL.block ?_)
 |(with_reducible refine F_at ?_); refine eW (vs := [(_, _), (_, _)]) Tryz.results101 ?_; (focus (repeat' (first | exact oA | refine oB ?_ | refine oC ?_ ?_ | fail)))
 |exact oM
 |fail)
 all_goals first | rfl | (exfalso; omega)
theorem apply_fn (p : Prob) (m : MixD) (s : StepD) : FnSound Tryz.prog 101 [.val true (probC p), .val true (mixC m), .val true (stepC s)] [] { vals := [(true, mixC (applyP p m s).1), (false, [.d (.v (.int .i64 (applyP p m s).2))])] } := by
 unfold applyP
 by_cases h : mixErr p m = 0
 ·rw [if_neg (by simpa using h)]
  cases hs : stepOK s with
  | false => rw [if_pos rfl]; exact apply1_fn p m s h hs
  | true =>
   rw [if_neg (by decide)]
   cases ht : thereB p s with
   | false => rw [if_pos rfl]; exact apply2_fn p m s h hs ht
   | true =>
    rw [if_neg (by decide)]
    cases hn : afterP p m s with
    | none => exact apply3_fn p m s h hs ht hn
    | some x => exact apply4_fn p m x s h hs ht hn
 ·rw [if_pos h]; exact apply0_fn p m s h
def st3 (p : Prob) (m : MixD) (kind i v : Nat) : List StepD := (List.range v).flatMap fun (v : Nat) => if (applyP p m ⟨(kind : Int) + 1, i, v⟩).2 = 0 then [⟨(kind : Int) + 1, i, v⟩] else []
def st2 (p : Prob) (m : MixD) (kind i : Nat) : List StepD := (List.range i).flatMap fun (i : Nat) => (List.range 6).flatMap fun (v : Nat) => if (applyP p m ⟨(kind : Int) + 1, i, v⟩).2 = 0 then [⟨(kind : Int) + 1, i, v⟩] else []
def st1 (p : Prob) (m : MixD) (k : Nat) : List StepD := (List.range k).flatMap fun (kind : Nat) => (List.range (max p.vs.length p.tabs.length)).flatMap fun (i : Nat) => (List.range 6).flatMap fun (v : Nat) => if (applyP p m ⟨(kind : Int) + 1, i, v⟩).2 = 0 then [⟨(kind : Int) + 1, i, v⟩] else []
theorem st3_len {p : Prob} {m : MixD} {kind i : Nat} : ∀ v, (st3 p m kind i v).length ≤ v
 | 0 => by simp [st3]
 | v + 1 => by
  have := st3_len (p := p) (m := m) (kind := kind) (i := i) v
  unfold st3 at this ⊢
  rw [range_fm, List.length_append]
  split <;> simp only [List.length_cons, List.length_nil] <;> omega
theorem st2_len {p : Prob} {m : MixD} {kind : Nat} : ∀ i, (st2 p m kind i).length ≤ i * 6
 | 0 => by simp [st2]
 | i + 1 => by
  have h1 := st2_len (p := p) (m := m) (kind := kind) i
  have h2 := st3_len (p := p) (m := m) (kind := kind) (i := i) 6
  unfold st2 at h1 ⊢
  unfold st3 at h2
  rw [range_fm, List.length_append]
  omega
theorem st1_len {p : Prob} {m : MixD} (hp : vpErr p = 0) : ∀ k, (st1 p m k).length ≤ k * 72
 | 0 => by simp [st1]
 | k + 1 => by
  have h1 := st1_len (m := m) hp k
  have h2 := st2_len (p := p) (m := m) (kind := k) (max p.vs.length p.tabs.length)
  have hv := vp_all hp
  have h3 : max p.vs.length p.tabs.length ≤ 12 := by omega
  unfold st1 at h1 ⊢
  unfold st2 at h2
  rw [range_fm, List.length_append]
  omega
theorem st3_yes {p : Prob} {m : MixD} {kind i v : Nat} (h : (applyP p m ⟨(kind : Int) + 1, i, v⟩).2 = 0) : st3 p m kind i (v + 1) = st3 p m kind i v ++ [⟨(kind : Int) + 1, i, v⟩] := by
 unfold st3; rw [range_fm, if_pos h]
theorem st3_no {p : Prob} {m : MixD} {kind i v : Nat} (h : ¬ (applyP p m ⟨(kind : Int) + 1, i, v⟩).2 = 0) : st3 p m kind i (v + 1) = st3 p m kind i v := by
 unfold st3; rw [range_fm, if_neg h, List.append_nil]
theorem st2_step {p : Prob} {m : MixD} {kind i v : Nat} (h : v = 6) : st2 p m kind (i + 1) = st2 p m kind i ++ st3 p m kind i v := by
 subst h; unfold st2; rw [range_fm]; rfl
theorem st1_step {p : Prob} {m : MixD} {k i : Nat} (h : i = max p.vs.length p.tabs.length) : st1 p m (k + 1) = st1 p m k ++ st2 p m k i := by
 subst h; unfold st1; rw [range_fm]; rfl
theorem steps_fn (p : Prob) (m : MixD) (hp : vpErr p = 0) : FnSound Tryz.prog 77 [.val true (probC p), .val true (mixC m)] [] { vals := [(false, [.d (.sl 3 (dSteps (stepsP p m)))])] } := by
 have hvp := vp_all hp
 refine startW (tm := [(0, _), (1, _)]) Tryz.func77 rfl Tryz.ntmps77 rfl rfl rfl rfl ?_
 repeat' (first
 |(with_reducible refine rgn 5 500 ?_ ?_); exact rfl
 |(with_reducible refine rgn 6 600 ?_ ?_); exact rfl
 |(with_reducible refine rgn 8 700 ?_ ?_); exact rfl
 |(with_reducible refine rgn 9 800 ?_ ?_); exact rfl
 |(with_reducible refine rgn 11 900 ?_ ?_); exact rfl
 |(with_reducible refine rgn 12 1000 ?_ ?_); exact rfl
 |(with_reducible refine rgn 13 1100 ?_ ?_); exact rfl
 |(with_reducible refine rgn 14 1200 ?_ ?_); exact rfl
 |(with_reducible refine rgn 10 1300 ?_ ?_); exact rfl
 |(with_reducible refine rgn 7 1400 ?_ ?_); exact rfl
 |(with_reducible refine rgn 4 1500 ?_ ?_); exact rfl
 |(with_reducible refine K_ca 101 ?_); refine zC (apply_fn p m ⟨(k : Int) + 1, i, v⟩) ?_
 |(with_reducible refine blk_at (id := 0) ?_); (try (refine JL.zeroW 5 _ 68 3 rfl rfl ?_)); (refine JL.rekW 5 (1080, 351) rfl rfl rfl rfl ?_); ((with_reducible refine JL.loopW 0 399 (fun (k : Nat) tm => (6, .one false [.d (.v (.int .i64 (((k : Int) + 1))))]) :: (5, .one false [.own (1080, 351)]) :: tm) (fun (k : Nat) bo => ((1080, 351), some (.sl 68 3 ((dSteps (st1 p m k))))) :: bo) (fun (k : Nat) => k ≤ 3) (fun (k : Nat) => 3 - k) (0) ?_ (fun k hk => have hl1 := st1_len (m := m) hp k; ?_) ?_); (focus (apply SubW [((1080, 351), _)] rfl ?_ ?_ rfl ?_; (repeat' (first | exact kA | refine kB ?_ | refine kC ?_ ?_ | exact kD | fail)))))
 |((with_reducible refine round_next (i := k) (k + 1) ?_ ?_ ?_); (focus (apply SubW [((1080, 351), _)] rfl ?_ ?_ rfl ?_; (repeat' (first | exact kA | refine kB ?_ | refine kC ?_ ?_ | exact kD | fail)))))
 |(with_reducible refine blk_at (id := 2) ?_); (try (refine JL.zeroW 5 _ 68 3 rfl rfl ?_)); (refine JL.rekW 5 (1080, 551) rfl rfl rfl rfl ?_); ((with_reducible refine JL.loopW 2 599 (fun (i : Nat) tm => (7, .one false [.d (.v (.int .i64 ((i : Int))))]) :: (5, .one false [.own (1080, 551)]) :: tm) (fun (i : Nat) bo => ((1080, 551), some (.sl 68 3 ((dSteps (st1 p m k ++ st2 p m k i))))) :: bo) (fun (i : Nat) => i ≤ max p.vs.length p.tabs.length) (fun (i : Nat) => max p.vs.length p.tabs.length - i) (0) ?_ (fun i hi => have hl2 := st2_len (p := p) (m := m) (kind := k) i; ?_) ?_); (focus (apply SubW [((1080, 551), _)] rfl ?_ ?_ rfl ?_; (repeat' (first | exact kA | refine kB ?_ | refine kC ?_ ?_ | exact kD | fail)))))
 |((with_reducible refine round_next (i := i) (i + 1) ?_ ?_ ?_); (focus (apply SubW [((1080, 551), _)] rfl ?_ ?_ rfl ?_; (repeat' (first | exact kA | refine kB ?_ | refine kC ?_ ?_ | exact kD | fail)))))
 |(with_reducible refine blk_at (id := 4) ?_); (try (refine JL.zeroW 5 _ 68 3 rfl rfl ?_)); (refine JL.rekW 5 (1080, 751) rfl rfl rfl rfl ?_); ((with_reducible refine JL.loopW 4 799 (fun (v : Nat) tm => (8, .one false [.d (.v (.int .i64 ((v : Int))))]) :: (5, .one false [.own (1080, 751)]) :: tm) (fun (v : Nat) bo => ((1080, 751), some (.sl 68 3 ((dSteps (st1 p m k ++ (st2 p m k i ++ st3 p m k i v)))))) :: bo) (fun (v : Nat) => v ≤ 6) (fun (v : Nat) => 6 - v) (0) ?_ (fun v hv => have hl3 := st3_len (p := p) (m := m) (kind := k) (i := i) v; ?_) ?_); (focus (apply SubW [((1080, 751), _)] rfl ?_ ?_ rfl ?_; (repeat' (first | exact kA | refine kB ?_ | refine kC ?_ ?_ | exact kD | fail)))))
 |((with_reducible refine round_next (i := v) (v + 1) ?_ ?_ ?_); (focus (apply SubW [((1080, 751), _)] rfl ?_ ?_ rfl ?_; (repeat' (first | exact kA | refine kB ?_ | refine kC ?_ ?_ | exact kD | fail)))))
 |refine wA ?_
 |(refine wC ?_ ?_ <;> intro hc)
 |refine wB ?_ ?_
 |(with_reducible refine JL.block ?_)
 |(with_reducible refine F_at ?_); refine eW (vs := [(_, _)]) Tryz.results77 ?_; (focus (repeat' (first | exact oA | refine oB ?_ | refine oC ?_ ?_ | fail)))
 |exact oM
 |fail)
 all_goals first
  | rfl
  | (rw [st3_yes hc]; simp only [List.append_assoc])
  | (rw [st3_no hc])
  | (rw [st2_step (v := v) (by omega)])
  | (rw [st1_step (i := i) (by omega)])
  | (show dSteps _ = dSteps (st1 p m k ++ (st2 p m k i ++ [])); rw [List.append_nil])
  | (show dSteps _ = dSteps (st1 p m k ++ []); rw [List.append_nil])
  | (have e : k = 3 := by omega
     rw [e]; rfl)
  | omega
end Go.Proofs.YtngjhkgcfabciaaGreat

namespace Go.Proofs.YtngjhkgcfabciaaGreat
open Go Go.RowKit
theorem rgL (lend : FuncId → Bool) {N id nx nx' : Nat} {l : List Oper} {dr : Bool} {cs : List Code} {R : AX → St → Prop} {tm : List (Nat × AV)} {bo : BO} [RegN id nx'] (hn : Nat.ble nx nx' = true) (h : W Tryz.prog lend N ⟨l⟩ dr cs R 0 l tm bo nx' []) : JL Tryz.prog N (.region id ⟨l⟩ dr :: cs) ⟨tm, clean bo, nx⟩ R := JL.regionW nx' mo hn h
end Go.Proofs.YtngjhkgcfabciaaGreat

namespace Go.Proofs.YtngjhkgcfabciaaGreat
open Go Go.RowKit
set_option maxRecDepth 100000
set_option maxHeartbeats 8000000
set_option linter.unusedSimpArgs false
set_option linter.unusedVariables false
theorem MixG.few {p : Prob} {m : MixD} (h : MixG p m) : Few m := h.inn.few
theorem find_fn (p : Prob) (l : List NodeD) (m : MixD) (hl : NodesG p l) (hn : l.length ≤ 100000) (hm : MixG p m) : FnSound Tryz.prog 79 [.val false [.d (.sl 7 (dNodes l))], .val true (mixC m)] [] { vals := [(false, [.d (.v (.int .i64 (findN l m)))])] } := by
 have hg : ∀ k, MixG p (l.getD k nilN).mix ∨ ¬ k < l.length := fun k => by
  by_cases hk : k < l.length
  ·exact .inl (hl k hk)
  ·exact .inr hk
 refine startW (tm := [(0, _), (1, _)]) Tryz.func79 rfl Tryz.ntmps79 rfl rfl rfl rfl ?_
 repeat' (first
 |(with_reducible refine rgn 4 400 ?_ ?_); exact rfl
 |(with_reducible refine rgn 5 500 ?_ ?_); exact rfl
 |(with_reducible refine rgn 3 600 ?_ ?_); exact rfl
 |(with_reducible refine K_ca 20 ?_); refine zC (equal_fn (l.getD k nilN).mix m ((hg k).resolve_right (by omega)).few hm.few ((hg k).resolve_right (by omega)).u hm.u) ?_
 |(with_reducible refine blk_at (id := 0) ?_); ((with_reducible refine JL.loopW 0 299 (fun (k : Nat) tm => (5, .one false [.d (.v (.int .i64 ((k : Int))))]) :: tm) (fun (k : Nat) bo => bo) (fun (k : Nat) => k ≤ l.length ∧ ∀ j, j < k → ¬ (l.getD j nilN).mix = m) (fun (k : Nat) => l.length - k) (0) ?_ (fun k hk => ?_) ?_); (focus (apply SubW [] rfl ?_ ?_ rfl ?_; (repeat' (first | exact kA | refine kB ?_ | refine kC ?_ ?_ | exact kD | fail)))))
 |((with_reducible refine round_next (i := k) (k + 1) ?_ ?_ ?_); (focus (apply SubW [] rfl ?_ ?_ rfl ?_; (repeat' (first | exact kA | refine kB ?_ | refine kC ?_ ?_ | exact kD | fail)))))
 |refine wA ?_
 |(refine wC ?_ ?_ <;> intro hc)
 |refine wB ?_ ?_
 |(with_reducible refine JL.block ?_)
 |(with_reducible refine F_at ?_); refine eW (vs := [(_, _)]) Tryz.results79 ?_; (focus (repeat' (first | exact oA | refine oB ?_ | refine oC ?_ ?_ | fail)))
 |exact oM
 |fail)
 all_goals first
  | (rw [show findN l m = findFrom m l 0 from rfl, find_at (k := k) (by omega) hk.2 hc, Nat.zero_add])
  | (rw [show findN l m = findFrom m l 0 from rfl, find_none (fun j hj => hk.2 j (by omega))])
  | exact ⟨Nat.zero_le _, fun j hj => absurd hj (Nat.not_lt_zero j)⟩
  | (refine ⟨by omega, fun j hj => ?_⟩; by_cases e : j = k; (subst e; exact hc); exact hk.2 j (by omega))
theorem way_fn (p : Prob) (m0 : MixD) (l : List NodeD) (i : Nat) (hN : NodesOK p m0 l) (hi : i < l.length) (hn : l.length ≤ 100000) : FnSound Tryz.prog 82 [.val false [.d (.sl 7 (dNodes l))], .val false [.d (.v (.int .i64 (i : Int)))]] [] { vals := [(false, [.d (.sl 3 (dSteps (wayP l i)))])] } := by
 refine startW (tm := [(0, _), (1, _)]) Tryz.func82 rfl Tryz.ntmps82 rfl rfl rfl rfl ?_
 repeat' (first
 |(with_reducible refine blk_at (id := 0) ?_); (try (refine JL.zeroW 5 _ 68 3 rfl rfl ?_)); (refine JL.rekW 5 (1080, 251) rfl rfl rfl rfl ?_); ((with_reducible refine JL.loopW 0 299 (fun (k : Nat × List StepD) tm => (1, .one false [.d (.v (.int .i64 ((k.1 : Int))))]) :: (5, .one false [.own (1080, 251)]) :: tm) (fun (k : Nat × List StepD) bo => ((1080, 251), some (.sl 68 3 ((dSteps k.2)))) :: bo) (fun (k : Nat × List StepD) => k.1 < l.length ∧ k.1 + k.2.length ≤ i ∧ wayG l (k.1 + 1) k.1 k.2 = wayP l i) (fun (k : Nat × List StepD) => k.1) ((i, [])) ?_ (fun k hk => ?_) ?_); (focus (apply SubW [((1080, 251), _)] rfl ?_ ?_ rfl ?_; (repeat' (first | exact kA | refine kB ?_ | refine kC ?_ ?_ | exact kD | fail)))))
 |((with_reducible refine round_next (i := k) (((l.getD k.1 nilN).before.toNat, (l.getD k.1 nilN).by_ :: k.2)) ?_ ?_ ?_); (focus (apply SubW [((1080, 251), _)] rfl ?_ ?_ rfl ?_; (repeat' (first | exact kA | refine kB ?_ | refine kC ?_ ?_ | exact kD | fail)))))
 |refine wA ?_
 |(refine wC ?_ ?_ <;> intro hc)
 |refine wB ?_ ?_
 |(with_reducible refine JL.block ?_)
 |(with_reducible refine F_at ?_); refine eW (vs := [(_, _)]) Tryz.results82 ?_; (focus (repeat' (first | exact oA | refine oB ?_ | refine oC ?_ ?_ | fail)))
 |exact oM
 |fail)
 all_goals first
  | rfl
  | exact ⟨hi, by simp, rfl⟩
  | (have hw := way_next hN (acc := k.2) hk.1 hc; exact ⟨by dsimp only; omega, by dsimp only [List.length_cons]; omega, hw.2.trans hk.2.2⟩)
  | (have hw := way_next hN (acc := k.2) hk.1 hc; exact hw.1)
  | (rw [← hk.2.2, way_end hc])
theorem space_fn (p : Prob) (m : MixD) (most : Nat) (hm : MixG p m) (hr : robustP p m = true) (h1 : 1 ≤ most ∧ most ≤ 20000) : FnSound Tryz.prog 44 [.val true (probC p), .val true (mixC m), .val false [.d (.v (.int .i64 (most : Int)))]] [] { vals := [(false, [.d (.sl 7 (dNodes ((spaceP p m most).getD [])))]), (false, [.d (.v (.bool (spaceP p m most).isSome))])] } := by
 have hv := hm.inn.vp
 have hsl := fun x => steps_len p x hv
 refine startW (tm := [(0, _), (1, _), (2, _)]) Tryz.func44 rfl Tryz.ntmps44 rfl rfl rfl rfl ?_
 repeat' (first
 |(with_reducible refine JL.regionW (lend := (fun g => g == 79)) (id := 5) 500 mo ?_ ?_); exact rfl
 |(with_reducible refine JL.regionW (lend := (fun g => g == 79)) (id := 6) 600 mo ?_ ?_); exact rfl
 |(with_reducible refine JL.regionW (lend := (fun g => g == 79)) (id := 7) 700 mo ?_ ?_); exact rfl
 |(with_reducible refine JL.regionW (lend := (fun g => g == 79)) (id := 9) 800 mo ?_ ?_); exact rfl
 |(with_reducible refine JL.regionW (lend := (fun g => g == 79)) (id := 10) 900 mo ?_ ?_); exact rfl
 |(with_reducible refine JL.regionW (lend := (fun g => g == 79)) (id := 11) 1000 mo ?_ ?_); exact rfl
 |(with_reducible refine JL.regionW (lend := (fun g => g == 79)) (id := 12) 1100 mo ?_ ?_); exact rfl
 |(with_reducible refine JL.regionW (lend := (fun g => g == 79)) (id := 13) 1200 mo ?_ ?_); exact rfl
 |(with_reducible refine JL.regionW (lend := (fun g => g == 79)) (id := 8) 1300 mo ?_ ?_); exact rfl
 |(with_reducible refine JL.regionW (lend := (fun g => g == 79)) (id := 4) 1400 mo ?_ ?_); exact rfl
 |(with_reducible refine rgL (fun g => g == 79) ?_ ?_); exact rfl
 |(with_reducible refine K_ca 77 ?_); refine zC (steps_fn p (y.2.getD y.1 nilN).mix hv) ?_
 |(with_reducible refine K_ca 78 ?_); refine zC (after_fn p (z.2.getD y.1 nilN).mix ((stepsP p (y.2.getD y.1 nilN).mix).getD z.1 nilS) (by rw [hz.2.2.2.2.1]; exact (hy.2.2.1 y.1 (by omega)).inn) (step_at (getD_mem (by omega))).1 (by have := (step_at (p := p) (m := (y.2.getD y.1 nilN).mix) (getD_mem (l := stepsP p (y.2.getD y.1 nilN).mix) (k := z.1) (d := nilS) (by omega))).2.2; omega)) ?_
 |(with_reducible refine K_ca 43 ?_); refine zC (robust_fn p ((afterP p (z.2.getD y.1 nilN).mix ((stepsP p (y.2.getD y.1 nilN).mix).getD z.1 nilS)).getD nilM) (by rw [hz.2.2.2.2.1]; exact (after_some_g (hy.2.2.1 y.1 (by omega)) (getD_mem (by omega))).inn)) ?_
 |(with_reducible refine K_ca 79 ?_); refine zC (find_fn p z.2 ((afterP p (z.2.getD y.1 nilN).mix ((stepsP p (y.2.getD y.1 nilN).mix).getD z.1 nilS)).getD nilM) hz.2.1 (by omega) (by rw [hz.2.2.2.2.1]; exact after_some_g (hy.2.2.1 y.1 (by omega)) (getD_mem (by omega)))) ?_
 |(with_reducible refine blk_at (id := 0) ?_); (try (refine JL.zeroW 8 _ 150 7 rfl rfl ?_)); (refine JL.rekW 8 (1128, 351) rfl rfl rfl rfl ?_); ((with_reducible refine JL.loopW 0 399 (fun (y : Nat × List NodeD) tm => (9, .one false [.d (.v (.int .i64 ((y.1 : Int))))]) :: (8, .one false [.own (1128, 351)]) :: tm) (fun (y : Nat × List NodeD) bo => ((1128, 351), some (.sl 150 7 ((dNodes y.2)))) :: bo) (fun (y : Nat × List NodeD) => y.1 ≤ y.2.length ∧ y.2.length ≤ most ∧ NodesG p y.2 ∧ spaceG p most (most + 2 - y.1) y.1 y.2 = spaceP p m most) (fun (y : Nat × List NodeD) => most + 1 - y.1) ((0, [⟨m, -1, nilS⟩])) ?_ (fun y hy => have hsy := hsl (y.2.getD y.1 nilN).mix; ?_) ?_); (focus (apply SubW [((1128, 351), _)] rfl ?_ ?_ rfl ?_; (repeat' (first | exact kA | refine kB ?_ | refine kC ?_ ?_ | exact kD | fail)))))
 |((with_reducible refine round_next (i := y) ((y.1 + 1, z.2)) ?_ ?_ ?_); (focus (apply SubW [((1128, 351), _)] rfl ?_ ?_ rfl ?_; (repeat' (first | exact kA | refine kB ?_ | refine kC ?_ ?_ | exact kD | fail)))))
 |(with_reducible refine blk_at (id := 2) ?_); (try (refine JL.zeroW 8 _ 150 7 rfl rfl ?_)); (refine JL.rekW 8 (1128, 651) rfl rfl rfl rfl ?_); ((with_reducible refine JL.loopW 2 699 (fun (z : Nat × List NodeD) tm => (11, .one false [.d (.v (.int .i64 ((z.1 : Int))))]) :: (8, .one false [.own (1128, 651)]) :: tm) (fun (z : Nat × List NodeD) bo => ((1128, 651), some (.sl 150 7 ((dNodes z.2)))) :: bo) (fun (z : Nat × List NodeD) => z.1 ≤ (stepsP p (y.2.getD y.1 nilN).mix).length ∧ NodesG p z.2 ∧ y.1 < z.2.length ∧ z.2.length ≤ most ∧ (z.2.getD y.1 nilN).mix = (y.2.getD y.1 nilN).mix ∧ spaceI p most y.1 ((stepsP p (y.2.getD y.1 nilN).mix).drop z.1) z.2 = spaceI p most y.1 (stepsP p (y.2.getD y.1 nilN).mix) y.2) (fun (z : Nat × List NodeD) => (stepsP p (y.2.getD y.1 nilN).mix).length - z.1) ((0, y.2)) ?_ (fun z hz => have hX1 := @nx3_yes p y.1 z.2 ((stepsP p (y.2.getD y.1 nilN).mix).getD z.1 nilS); have hX2 := @nx3_no p y.1 z.2 ((stepsP p (y.2.getD y.1 nilN).mix).getD z.1 nilS); ?_) ?_); (focus (apply SubW [((1128, 651), _)] rfl ?_ ?_ rfl ?_; (repeat' (first | exact kA | refine kB ?_ | refine kC ?_ ?_ | exact kD | fail)))))
 |((with_reducible refine round_next (i := z) ((z.1 + 1, nx3 p y.1 z.2 ((stepsP p (y.2.getD y.1 nilN).mix).getD z.1 nilS))) ?_ ?_ ?_); (focus (apply SubW [((1128, 651), _)] rfl ?_ ?_ rfl ?_; (repeat' (first | exact kA | refine kB ?_ | refine kC ?_ ?_ | exact kD | fail)))))
 |refine wA ?_
 |(refine wC ?_ ?_ <;> intro hc)
 |refine wB ?_ ?_
 |(with_reducible refine JL.block ?_)
 |(with_reducible refine F_at ?_); refine eW (vs := [(_, _), (_, _)]) Tryz.results44 ?_; (focus (repeat' (first | exact oA | refine oB ?_ | refine oC ?_ ?_ | fail)))
 |exact oM
 |fail)
 all_goals first
  | rfl
  | (dsimp only; rw [hX1 (by assumption) (by assumption)]; done)
  | (dsimp only; rw [hX2 (.inl (by assumption))]; done)
  | (dsimp only; rw [hX2 (.inr (by assumption))]; done)
  | exact sp_inv (hy.2.2.1 y.1 (by omega)) (by omega) hz.2.1 hz.2.2.1 hz.2.2.2.2.1 hz.2.2.2.2.2 (by rw [hX1 (by assumption) (by assumption)]; simp only [List.length_append, List.length_cons, List.length_nil] at hc ⊢; omega)
  | exact sp_inv (hy.2.2.1 y.1 (by omega)) (by omega) hz.2.1 hz.2.2.1 hz.2.2.2.2.1 hz.2.2.2.2.2 (by rw [hX2 (.inl (by assumption))]; omega)
  | exact sp_inv (hy.2.2.1 y.1 (by omega)) (by omega) hz.2.1 hz.2.2.1 hz.2.2.2.2.1 hz.2.2.2.2.2 (by rw [hX2 (.inr (by assumption))]; omega)
  | (rw [sp_none (k := z.1) (by omega) (by omega) (by omega) hz.2.2.2.2.2 hy.2.2.2 (by rw [hX1 (by assumption) (by assumption)]; simp only [List.length_append, List.length_cons, List.length_nil] at hc ⊢; omega)] <;> rfl)
  | (rw [sp_none (k := z.1) (by omega) (by omega) (by omega) hz.2.2.2.2.2 hy.2.2.2 (by rw [hX2 (.inl (by assumption))]; omega)] <;> rfl)
  | (rw [sp_none (k := z.1) (by omega) (by omega) (by omega) hz.2.2.2.2.2 hy.2.2.2 (by rw [hX2 (.inr (by assumption))]; omega)] <;> rfl)
  | exact ⟨Nat.zero_le _, hy.2.2.1, by dsimp only; omega, by dsimp only; omega, rfl, rfl⟩
  | exact ⟨by dsimp only; omega, by dsimp only; omega, hz.2.1, sp_next (k := z.1) (by omega) (by omega) (by omega) hz.2.2.2.2.2 hy.2.2.2⟩
  | (rw [← hy.2.2.2, spaceG_end (by omega) (by omega)] <;> rfl)
  | (refine ⟨Nat.zero_le _, by simpa using h1.1, fun k hk => ?_, rfl⟩; have e : k = 0 := by (simp at hk; omega)
     subst e; exact hm)
  | trace_state
end Go.Proofs.YtngjhkgcfabciaaGreat

