/- Rules of runs and contracts of functions, for the claims of one seat. -/
import Derived.Test.YtngjhkgcfabciaaGreatQA10
import Derived.Test.YtngjhkgcfabciaaGreatQA16
namespace Go.Proofs.YtngjhkgcfabciaaGreat
open Go Go.RowKit
set_option linter.unusedSimpArgs false
set_option linter.unusedVariables false
def cf3 (p : Prob) (m : MixD) (i u v : Nat) : List ConfD := (List.range v).flatMap fun (v : Nat) => if (hasV (runS m (p.tabs.getD i nilT).tto) v && (!(p.tabs.getD i nilT).aware && !okAt (p.tabs.getD i nilT) u v)) = true then [⟨i, u, v⟩] else []
def rd3 (p : Prob) (m : MixD) (i u v : Nat) : Bool := (List.range v).any fun (v : Nat) => hasV (runS m (p.tabs.getD i nilT).tto) v && okAt (p.tabs.getD i nilT) u v
def cf2 (p : Prob) (m : MixD) (i u : Nat) : List ConfD := (List.range u).flatMap fun (u : Nat) => if hasV (writers p m i (p.tabs.getD i nilT)) u = true then confU p m i (p.tabs.getD i nilT) u else []
def cf1 (p : Prob) (m : MixD) (i : Nat) : List ConfD := (List.range i).flatMap (confT p m)
theorem cf3_0 {p : Prob} {m : MixD} {i u : Nat} : cf3 p m i u 0 = [] := rfl
theorem cf2_0 {p : Prob} {m : MixD} {i : Nat} : cf2 p m i 0 = [] := rfl
theorem cf1_0 {p : Prob} {m : MixD} : cf1 p m 0 = [] := rfl
theorem rd3_0 {p : Prob} {m : MixD} {i u : Nat} : rd3 p m i u 0 = false := rfl
theorem cf3_yes {p : Prob} {m : MixD} {i u v : Nat} (h : hasV (runS m (p.tabs.getD i nilT).tto) v = true) (h2 : (p.tabs.getD i nilT).aware = false) (h3 : okAt (p.tabs.getD i nilT) u v = false) : cf3 p m i u (v + 1) = cf3 p m i u v ++ [⟨i, u, v⟩] := by
 unfold cf3; rw [range_fm, if_pos (by rw [h, h2, h3]; rfl)]
theorem cf3_no {p : Prob} {m : MixD} {i u v : Nat} (h : hasV (runS m (p.tabs.getD i nilT).tto) v = false ∨ (p.tabs.getD i nilT).aware = true ∨ okAt (p.tabs.getD i nilT) u v = true) : cf3 p m i u (v + 1) = cf3 p m i u v := by
 unfold cf3
 rw [range_fm, if_neg, List.append_nil]
 intro h'
 simp only [Bool.and_eq_true, Bool.not_eq_true'] at h'
 obtain ⟨a, b, c⟩ := h'
 rcases h with h | h | h
 ·rw [h] at a; cases a
 ·rw [h] at b; cases b
 ·rw [h] at c; cases c
theorem rd3_step {p : Prob} {m : MixD} {i u v : Nat} : rd3 p m i u (v + 1) = (rd3 p m i u v || (hasV (runS m (p.tabs.getD i nilT).tto) v && okAt (p.tabs.getD i nilT) u v)) := range_any
theorem cf2_no {p : Prob} {m : MixD} {i u : Nat} (h : hasV (writers p m i (p.tabs.getD i nilT)) u = false) : cf2 p m i (u + 1) = cf2 p m i u := by
 unfold cf2; rw [range_fm, if_neg (by rw [h]; decide), List.append_nil]
theorem confU_is {p : Prob} {m : MixD} {i u v : Nat} (hv : (v : Int) ≤ p.vs.getD (p.tabs.getD i nilT).tto.toNat 0) (hn : ¬ (v : Int) < p.vs.getD (p.tabs.getD i nilT).tto.toNat 0) : confU p m i (p.tabs.getD i nilT) u = cf3 p m i u v ++ (if ((p.tabs.getD i nilT).aware && !rd3 p m i u v) = true then [⟨i, u, -1⟩] else []) := by
 have e : (p.vs.getD (p.tabs.getD i nilT).tto.toNat 0).toNat = v := by omega
 unfold confU cf3 rd3
 rw [e]
theorem cf2_yes {p : Prob} {m : MixD} {i u v : Nat} (h : hasV (writers p m i (p.tabs.getD i nilT)) u = true) (hv : (v : Int) ≤ p.vs.getD (p.tabs.getD i nilT).tto.toNat 0) (hn : ¬ (v : Int) < p.vs.getD (p.tabs.getD i nilT).tto.toNat 0) : cf2 p m i (u + 1) = cf2 p m i u ++ (cf3 p m i u v ++ (if ((p.tabs.getD i nilT).aware && !rd3 p m i u v) = true then [⟨i, u, -1⟩] else [])) := by
 rw [← confU_is hv hn]
 unfold cf2; rw [range_fm, if_pos h]
theorem cf1_step {p : Prob} {m : MixD} {i u : Nat} (hu : (u : Int) ≤ p.vs.getD (p.tabs.getD i nilT).frm.toNat 0) (hn : ¬ (u : Int) < p.vs.getD (p.tabs.getD i nilT).frm.toNat 0) : cf1 p m (i + 1) = cf1 p m i ++ cf2 p m i u := by
 have e : (p.vs.getD (p.tabs.getD i nilT).frm.toNat 0).toNat = u := by omega
 unfold cf1 cf2
 rw [range_fm]
 congr 1
 unfold confT
 rw [e]
theorem cf1_all {p : Prob} {m : MixD} {i : Nat} (hi : i ≤ p.tabs.length) (hn : ¬ i < p.tabs.length) : cf1 p m i = foundP p m := by
 have : i = p.tabs.length := by omega
 subst this; rfl
theorem cf3_len {p : Prob} {m : MixD} {i u : Nat} : ∀ v, (cf3 p m i u v).length ≤ v
 | 0 => by simp [cf3]
 | v + 1 => by
  have := cf3_len (p := p) (m := m) (i := i) (u := u) v
  unfold cf3 at this ⊢
  rw [range_fm, List.length_append]
  split <;> simp only [List.length_cons, List.length_nil] <;> omega
theorem confU_len {p : Prob} {m : MixD} {i u : Nat} (h : p.vs.getD (p.tabs.getD i nilT).tto.toNat 0 ≤ 6) : (confU p m i (p.tabs.getD i nilT) u).length ≤ 7 := by
 have h3 := cf3_len (p := p) (m := m) (i := i) (u := u) (p.vs.getD (p.tabs.getD i nilT).tto.toNat 0).toNat
 unfold confU
 unfold cf3 at h3
 rw [List.length_append]
 split <;> simp only [List.length_cons, List.length_nil] <;> omega
theorem cf2_len {p : Prob} {m : MixD} {i : Nat} (h : p.vs.getD (p.tabs.getD i nilT).tto.toNat 0 ≤ 6) : ∀ u, (cf2 p m i u).length ≤ u * 7
 | 0 => by simp [cf2]
 | u + 1 => by
  have h1 := cf2_len (m := m) h u
  have h2 := confU_len (m := m) (u := u) h
  unfold cf2 at h1 ⊢
  rw [range_fm, List.length_append]
  split
  ·omega
  ·simp only [List.length_nil]; omega
theorem cf1_len {p : Prob} {m : MixD} (h : vpErr p = 0) : ∀ i, (cf1 p m i).length ≤ i * 42
 | 0 => by simp [cf1]
 | i + 1 => by
  have h1 := cf1_len (m := m) h i
  have h2 := cf2_len (m := m) (i := i) (vs_le h _) (p.vs.getD (p.tabs.getD i nilT).frm.toNat 0).toNat
  have h3 := vs_le h (p.tabs.getD i nilT).frm.toNat
  unfold cf1 at h1 ⊢
  rw [range_fm, List.length_append]
  have e : confT p m i = cf2 p m i (p.vs.getD (p.tabs.getD i nilT).frm.toNat 0).toNat := rfl
  rw [e]
  omega
theorem openN_le : ∀ l : List Int, openN l ≤ l.length
 | [] => Nat.le_refl _
 | x :: l => by
  have := openN_le l
  unfold openN
  simp only [List.length_cons]
  split <;> omega
theorem openN_snoc : ∀ (l : List Int) (x : Int), openN (l ++ [x]) = openN l + (if 0 ≤ x then 1 else 0)
 | [], x => by simp [openN]
 | y :: l, x => by
  simp only [List.cons_append, openN]
  rw [openN_snoc l x]
  omega
theorem openN_step {l : List Int} {i : Nat} (h : i < l.length) : openN (l.take (i + 1)) = openN (l.take i) + (if 0 ≤ l.getD i 0 then 1 else 0) := by
 rw [← openN_snoc, take_snoc h]
theorem abn_len : ∀ (l : List Int) (k : Nat), (abn l k).length = l.length
 | [], _ => rfl
 | x :: l, k => by
  unfold abn
  split <;> simp [abn_len l]
theorem abn_snoc : ∀ (l : List Int) (x : Int) (k : Nat), abn (l ++ [x]) k = abn l k ++ [if 0 ≤ x ∧ (k / 2 ^ openN l) % 2 = 1 then -1 else x]
 | [], x, k => by
  simp only [List.nil_append, abn, openN, Nat.pow_zero, Nat.div_one]
  split
  ·rename_i h
   simp [h]
  ·rename_i h
   simp [h]
 | y :: l, x, k => by
  simp only [List.cons_append, abn, openN]
  split
  ·rename_i h
   rw [abn_snoc l x (k / 2), Nat.div_div_eq_div_mul]
   have : 2 ^ (1 + openN l) = 2 * 2 ^ openN l := by rw [Nat.pow_add]
   rw [this]
   rfl
  ·rename_i h
   rw [abn_snoc l x k, Nat.zero_add]
   rfl
theorem abn_step {l : List Int} {i k : Nat} (h : i < l.length) : abn (l.take (i + 1)) k = abn (l.take i) k ++ [if 0 ≤ l.getD i 0 ∧ (k / 2 ^ openN (l.take i)) % 2 = 1 then -1 else l.getD i 0] := by
 rw [← abn_snoc, take_snoc h]
def abw (l : List Int) (k i : Nat) : List Int := abn (l.take i) k ++ l.drop i
theorem abw_len {l : List Int} {k i : Nat} (h : i ≤ l.length) : (abw l k i).length = l.length := by
 unfold abw
 rw [List.length_append, abn_len, List.length_take, List.length_drop]
 omega
theorem abw_all {l : List Int} {k i : Nat} (h : l.length ≤ i) : abw l k i = abn l k := by
 unfold abw
 rw [List.take_of_length_le h, List.drop_eq_nil_of_le h, List.append_nil]
theorem abw_keep {l : List Int} {k i : Nat} (h : i < l.length) (hn : ¬ (0 ≤ l.getD i 0 ∧ (k / 2 ^ openN (l.take i)) % 2 = 1)) : abw l k (i + 1) = abw l k i := by
 unfold abw
 rw [abn_step h, if_neg hn, List.append_assoc]
 congr 1
 rw [List.getD_eq_getElem?_getD, List.getElem?_eq_getElem h, List.drop_eq_getElem_cons h]
 rfl
theorem abw_set {l : List Int} {k i : Nat} (h : i < l.length) (hy : 0 ≤ l.getD i 0 ∧ (k / 2 ^ openN (l.take i)) % 2 = 1) : abw l k (i + 1) = (abw l k i).set i (-1) := by
 have hl : (abn (l.take i) k).length = i := by rw [abn_len, List.length_take]; omega
 unfold abw
 rw [abn_step h, if_pos hy, List.append_assoc, List.set_append_right _ _ (by omega), hl, Nat.sub_self, List.drop_eq_getElem_cons h]
 rfl
theorem pow_open {n : Nat} (h : n ≤ 12) : IntKind.i64.wrap (1 * 2 ^ ((n : Nat) : Int).toNat) = ((2 ^ n : Nat) : Int) ∧ 2 ^ n ≤ 4096 ∧ 0 < 2 ^ n := by
 have h2 : 2 ^ n ≤ 2 ^ 12 := Nat.pow_le_pow_right (by decide) h
 have h3 : 0 < 2 ^ n := Nat.pow_pos (by decide)
 refine ⟨?_, by simpa using h2, h3⟩
 rw [Int.toNat_natCast, Int.one_mul]
 have : ((2 : Int) ^ n) = ((2 ^ n : Nat) : Int) := by push_cast; rfl
 rw [this]
 refine wrap_i64 ⟨?_, ?_⟩ <;> omega
theorem shr_mod {k n : Nat} : ((k : Int) / 2 ^ ((n : Nat) : Int).toNat).tmod 2 = 1 ↔ (k / 2 ^ n) % 2 = 1 := by
 rw [Int.toNat_natCast]
 have h1 : ((k : Int) / 2 ^ n) = ((k / 2 ^ n : Nat) : Int) := by push_cast; rfl
 rw [h1]
 have h2 : (((k / 2 ^ n : Nat) : Int)).tmod 2 = (((k / 2 ^ n) % 2 : Nat) : Int) := by
  rw [Int.tmod_eq_emod_of_nonneg (Int.natCast_nonneg _)]; push_cast; rfl
 rw [h2]
 omega
theorem allP_len {m : MixD} : (allP m).length = 2 ^ openN m.next := by simp [allP]
theorem abM_in {p : Prob} {m : MixD} (h : MixIn p m) (k : Nat) : MixIn p (abM m k) := by
 refine ⟨h.vp, h.lb, by simp only [abM]; rw [abn_len]; exact h.ln, h.lh, fun i hi => ⟨(h.rng i hi).1, ?_⟩⟩
 have gen : ∀ (l : List Int) (k i : Nat), (abn l k).getD i 0 = l.getD i 0 ∨ (abn l k).getD i 0 = -1 := by
  intro l
  induction l with
  | nil => intro k i; left; rfl
  | cons x l ih =>
   intro k i
   unfold abn
   by_cases hx : 0 ≤ x
   ·rw [if_pos hx]
    cases i with
    | zero =>
     by_cases hk : k % 2 = 1
     ·right; simp [hk]
     ·left; simp [hk]
    | succ i => simpa using ih (k / 2) i
   ·rw [if_neg hx]
    cases i with
    | zero => left; rfl
    | succ i => simpa using ih k i
 have h2 := (h.rng i hi).2
 have h3 := vp_all h.vp
 have h4 := (h3.2.2.2.2 i hi).1
 rcases gen m.next k i with e | e
 ·simp only [abM]; rw [e]; exact h2
 ·simp only [abM]; rw [e]; omega
theorem all_safe {p : Prob} {m : MixD} {k : Nat} (h : ∀ j, j < k → safeP p ((allP m).getD j nilM) = true) (hk : (allP m).length ≤ k) : robustP p m = true := by
 unfold robustP
 rw [List.all_eq_true]
 intro x hx
 obtain ⟨i, hi, rfl⟩ := List.getElem_of_mem hx
 have := h i (by omega)
 rwa [List.getD_eq_getElem?_getD, List.getElem?_eq_getElem hi] at this
theorem all_unsafe {p : Prob} {m : MixD} {k : Nat} (hk : k < (allP m).length) (h : safeP p ((allP m).getD k nilM) = false) : robustP p m = false := by
 unfold robustP
 rw [List.all_eq_false]
 exact ⟨_, List.getElem_mem hk, by rw [List.getD_eq_getElem?_getD, List.getElem?_eq_getElem hk] at h; simpa using h⟩
theorem allP_get {m : MixD} {k : Nat} (hk : k < (allP m).length) : (allP m).getD k nilM = abM m k := by
 have hk' : k < 2 ^ openN m.next := by rwa [allP_len] at hk
 simp [allP, List.getD_eq_getElem?_getD, hk']
theorem blameL_at {p : Prob} : ∀ {l : List MixD} {k : Nat}, k < l.length → (∀ j, j < k → foundP p (l.getD j nilM) = []) → ¬ foundP p (l.getD k nilM) = [] → blameL p l = (l.getD k nilM, (foundP p (l.getD k nilM)).getD 0 nilC, 0)
 | x :: r, 0, _, _, hn => by
  unfold blameL
  have hn : ¬ foundP p x = [] := hn
  cases hf : foundP p x with
  | nil => exact absurd hf hn
  | cons c cs => simp [hf]
 | x :: r, k + 1, hk, h0, hn => by
  have h1 : foundP p x = [] := h0 0 (by omega)
  unfold blameL
  rw [h1]
  exact blameL_at (by simpa using hk) (fun j hj => h0 (j + 1) (by omega)) hn
theorem blameL_no {p : Prob} {l : List MixD} {k : Nat} (hk : l.length ≤ k) (h0 : ∀ j, j < k → foundP p (l.getD j nilM) = []) : blameL p l = (nilM, ⟨0, 0, 0⟩, 15) := by
 refine blameL_safe ?_
 rw [List.all_eq_true]
 intro x hx
 obtain ⟨i, hi, rfl⟩ := List.getElem_of_mem hx
 have := h0 i (by omega)
 rw [List.getD_eq_getElem?_getD, List.getElem?_eq_getElem hi] at this
 simp only [safeP]
 rw [show foundP p l[i] = [] from this]
 rfl
theorem cmpL_at : ∀ {a b : List Int} {k : Nat}, k < a.length → k < b.length → (∀ j, j < k → a.getD j 0 = b.getD j 0) → (a.getD k 0 < b.getD k 0 → cmpL a b = -1) ∧ (b.getD k 0 < a.getD k 0 → cmpL a b = 1)
 | x :: a, y :: b, 0, _, _, _ => by
  refine ⟨fun h => ?_, fun h => ?_⟩
  ·have h : x < y := h
   unfold cmpL; rw [if_pos h]
  ·have h : y < x := h
   unfold cmpL; rw [if_neg (by omega), if_pos h]
 | x :: a, y :: b, k + 1, h1, h2, h0 => by
  have e : x = y := h0 0 (by omega)
  subst e
  unfold cmpL
  rw [if_neg (by omega), if_neg (by omega)]
  exact cmpL_at (by simpa using h1) (by simpa using h2) (fun j hj => h0 (j + 1) (by omega))
theorem cmpL_end : ∀ {a b : List Int} {k : Nat}, (∀ j, j < k → a.getD j 0 = b.getD j 0) → (a.length ≤ k ∨ b.length ≤ k) → k ≤ a.length → k ≤ b.length → cmpL a b = if a.length < b.length then -1 else if b.length < a.length then 1 else 0
 | [], [], _, _, _, _, _ => rfl
 | [], y :: b, _, _, _, _, _ => by unfold cmpL; rw [if_pos (by simp)]
 | x :: a, [], _, _, _, _, _ => by unfold cmpL; rw [if_neg (by simp), if_pos (by simp)]
 | x :: a, y :: b, 0, _, h, _, _ => by simp at h
 | x :: a, y :: b, k + 1, h0, h, h1, h2 => by
  have e : x = y := h0 0 (by omega)
  subst e
  unfold cmpL
  rw [if_neg (by omega), if_neg (by omega), cmpL_end (k := k) (fun j hj => h0 (j + 1) (by omega)) (by simpa using h) (by simpa using h1) (by simpa using h2)]
  simp
end Go.Proofs.YtngjhkgcfabciaaGreat

