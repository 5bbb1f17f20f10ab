/- Rules of runs and contracts of functions, for the claims of one seat. -/
import Derived.Test.YtgehafnodibhpaaGreatDoorPA14
import Derived.Test.YtgehafnodibhpaaGreatDoorPA19
import Derived.Test.YtgehafnodibhpaaGreatDoorPA21
namespace Go.Proofs.YtgehafnodibhpaaGreatDoor
open Go Go.RowKit
set_option maxRecDepth 100000
set_option maxHeartbeats 8000000
set_option linter.unusedSimpArgs false
set_option linter.unusedVariables false
theorem only_mems {t : TypD} (h : onlyP t = true) : t.kind = 5 ∨ t.kind = 6 ∨ t.mems = [] := by
 simp only [onlyP, Bool.and_eq_true, Bool.or_eq_true, decide_eq_true_eq, List.isEmpty_iff] at h
 rcases h.1.1.1.2 with g | g
 ·rcases g with g | g
  ·exact .inl g
  ·exact .inr (.inl g)
 ·exact .inr (.inr g)
theorem only_syms {t : TypD} (h : onlyP t = true) : t.kind = 4 ∨ t.syms = [] := by
 simp only [onlyP, Bool.and_eq_true, Bool.or_eq_true, decide_eq_true_eq, List.isEmpty_iff] at h
 exact h.1.1.1.1.2
theorem form_few {t : TypD} (h : formP t = true) : t.mems.length ≤ 16 ∧ t.syms.length ≤ 16 := by
 unfold formP at h
 simp only [Bool.and_eq_true, Bool.or_eq_true, Bool.not_eq_true', decide_eq_false_iff_not, decide_eq_true_eq] at h
 obtain ⟨⟨⟨⟨⟨⟨⟨_, h1⟩, _⟩, _⟩, _⟩, h2⟩, h3⟩, _⟩ := h
 constructor
 ·rcases only_mems h1 with g | g | g
  ·have := h3.resolve_left (fun a => a (.inl g))
   rw [mems_eq] at this
   simp only [Bool.and_eq_true, decide_eq_true_eq] at this
   exact this.2
  ·have := h3.resolve_left (fun a => a (.inr g))
   rw [mems_eq] at this
   simp only [Bool.and_eq_true, decide_eq_true_eq] at this
   exact this.2
  ·rw [g]; simp
 ·rcases only_syms h1 with g | g
  ·have := h2.resolve_left (fun a => a g)
   unfold symsP at this
   simp only [Bool.and_eq_true, decide_eq_true_eq] at this
   exact this.2
  ·rw [g]; simp
theorem getD_mem {α : Type} {l : List α} {d : α} {k : Nat} (h : k < l.length) : l.getD k d ∈ l := by simp [List.getD, h]
structure TypIn (l : List TypD) (t : TypD) : Prop where
 form : formP t = true
 few : t.mems.length ≤ 16 ∧ t.syms.length ≤ 16
 kind : 1 ≤ t.kind ∧ t.kind ≤ 9
 mem : ∀ k, k < t.mems.length → 0 ≤ (t.mems.getD k nilM0).typ ∧ (t.mems.getD k nilM0).typ < l.length
 elem : 7 ≤ t.kind → 0 ≤ t.elem ∧ t.elem < l.length
 key : t.kind = 8 → 0 ≤ t.key ∧ t.key < l.length
theorem typ_uses {l : List TypD} {i : Nat} (h : typErr l i = 0) : formP (l.getD i nilT0) = true ∧ ∀ u ∈ usesP (l.getD i nilT0), outT l.length u = false := by
 unfold typErr at h
 split at h
 ·cases h
 ·rename_i h1
  split at h
  ·cases h
  ·rename_i h2
   refine ⟨?_, fun u hu => ?_⟩
   ·cases g : formP (l.getD i nilT0) with
    | true => rfl
    | false => exact absurd (.inl g) h1
   ·have : (usesP (l.getD i nilT0)).any (outT l.length) = false := by simpa using h2
    rw [List.any_eq_false] at this
    simpa using this u hu
theorem typIn_of {l : List TypD} (h : schemaErr l = 0) {i : Nat} (hi : i < l.length) : TypIn l (l.getD i nilT0) := by
 unfold schemaErr at h
 split at h
 ·cases h
 ·obtain ⟨h1, h2⟩ := typ_uses (firstE_all h i hi)
  have hu : ∀ u ∈ usesP (l.getD i nilT0), 0 ≤ u ∧ u < l.length := fun u hu => by
   have := h2 u hu
   unfold outT at this
   have := of_decide_eq_false this
   omega
  refine ⟨h1, form_few h1, form_kind h1, fun k hk => hu _ ?_, fun g => hu _ ?_, fun g => hu _ ?_⟩
  ·unfold usesP
   refine List.mem_append_left _ (List.mem_append_left _ (List.mem_map.2 ⟨_, ?_, rfl⟩))
   exact getD_mem hk
  ·unfold usesP; rw [if_pos g]; simp
  ·unfold usesP; rw [if_pos g]; simp
theorem schema_few {l : List TypD} (h : schemaErr l = 0) : l.length ≤ 32 := by
 unfold schemaErr at h
 split at h <;> omega
theorem memAt_lt {l : List MemD} {id : Int} (h : (memAt l id).isSome = true) : (memAt l id).getD 0 < l.length := by
 cases g : memAt l id with
 | none => rw [g] at h; cases h
 | some k =>
  unfold memAt at g
  have := (List.findIdx?_eq_some_iff_getElem.1 g).1
  exact this
structure FitG (l : List TypD) (t : Int) (v : ValD) : Prop where
 lo : ¬ t < 0
 hi : ¬ (l.length : Int) ≤ t
 kind : v.kind = (l.getD t.toNat nilT0).kind
 zero : zeroP v = true
 rest : v.rest = []
theorem pl_out {l : List TypD} {t : Int} {v : ValD} (h : t < 0 ∨ (l.length : Int) ≤ t) : false = plainP l t v := by
 obtain ⟨k, b, n, s, i, ks, is, rs⟩ := v
 unfold plainP; rw [if_pos h]
theorem pl_bad {l : List TypD} {t : Int} {v : ValD} (h1 : ¬ t < 0) (h2 : ¬ (l.length : Int) ≤ t) (h : ¬ v.kind = (l.getD t.toNat nilT0).kind ∨ zeroP v = false ∨ ¬ v.rest = []) : false = plainP l t v := by
 obtain ⟨k, b, n, s, i, ks, is, rs⟩ := v
 unfold plainP; rw [if_neg (by omega)]; exact (if_pos h).symm
theorem pl_go {l : List TypD} {t : Int} {v : ValD} (g : FitG l t v) : plainP l t v =
    if (l.getD t.toNat nilT0).kind = 2 then decide ((l.getD t.toNat nilT0).low ≤ v.n ∧ v.n ≤ (l.getD t.toNat nilT0).high)
    else if (l.getD t.toNat nilT0).kind = 3 then decide ((v.s.size : Int) ≤ (l.getD t.toNat nilT0).max)
    else if (l.getD t.toNat nilT0).kind = 4 then (symAt (l.getD t.toNat nilT0).syms v.id).isSome
    else if (l.getD t.toNat nilT0).kind = 5 then decide (v.items.length = (l.getD t.toNat nilT0).mems.length) && plainMs l (l.getD t.toNat nilT0).mems v.items
    else if (l.getD t.toNat nilT0).kind = 6 then match memAt (l.getD t.toNat nilT0).mems v.id with
     | some j => plainOne l ((l.getD t.toNat nilT0).mems.getD j nilM0).typ v.items
     | none => false
    else if (l.getD t.toNat nilT0).kind = 7 then decide ((v.items.length : Int) ≤ (l.getD t.toNat nilT0).max) && plainAll l (l.getD t.toNat nilT0).elem v.items
    else if (l.getD t.toNat nilT0).kind = 8 then decide ((v.keys.length : Int) ≤ (l.getD t.toNat nilT0).max ∧ v.items.length = v.keys.length) && plainAll l (l.getD t.toNat nilT0).key v.keys && ascV v.keys && plainAll l (l.getD t.toNat nilT0).elem v.items
    else if (l.getD t.toNat nilT0).kind = 9 then decide (v.items.length ≤ 1) && plainAll l (l.getD t.toNat nilT0).elem v.items
    else true := by
 obtain ⟨h1, h2, h3, h4, h5⟩ := g
 rw [← h3]
 obtain ⟨k, b, n, s, i, ks, is, rs⟩ := v
 conv => lhs; unfold plainP
 rw [if_neg (by omega), if_neg]
 ·rfl
 ·rintro (a | a | a)
  ·exact a h3
  ·rw [h4] at a; cases a
  ·exact a h5
theorem ms_no {l : List TypD} : ∀ {ms : List MemD} {is : List ValD} {j : Nat}, j < ms.length → j < is.length → plainP l (ms.getD j nilM0).typ (is.getD j nilV) = false → plainMs l ms is = false
 | [], _, _, h, _, _ => absurd h (Nat.not_lt_zero _)
 | _ :: _, [], _, _, h, _ => absurd h (Nat.not_lt_zero _)
 | m :: ms, v :: is, 0, _, _, h => by
  unfold plainMs
  rw [show plainP l m.typ v = false from h]; rfl
 | m :: ms, v :: is, j + 1, h1, h2, h => by
  unfold plainMs
  rw [ms_no (ms := ms) (is := is) (j := j) (by simpa using h1) (by simpa using h2) (by simpa using h), Bool.and_false]
theorem ms_yes {l : List TypD} : ∀ {ms : List MemD} {is : List ValD}, (∀ j, j < ms.length → j < is.length → plainP l (ms.getD j nilM0).typ (is.getD j nilV) = true) → plainMs l ms is = true
 | [], _, _ => by unfold plainMs; rfl
 | _ :: _, [], _ => by unfold plainMs; rfl
 | m :: ms, v :: is, h => by
  unfold plainMs
  rw [show plainP l m.typ v = true from h 0 (by simp) (by simp), ms_yes (ms := ms) (is := is) fun j h1 h2 => by
   have := h (j + 1) (by simpa using h1) (by simpa using h2)
   simpa using this]
  rfl
theorem asc_no : ∀ {ks : List ValD} {j : Nat}, j + 1 < ks.length → ¬ cmpV (ks.getD j nilV) (ks.getD (j + 1) nilV) < 0 → ascV ks = false
 | [], _, h, _ => absurd h (Nat.not_lt_zero _)
 | [_], _, h, _ => by simp at h
 | a :: b :: r, 0, _, h => by
  unfold ascV
  rw [decide_eq_false (show ¬ cmpV a b < 0 from h)]; rfl
 | a :: b :: r, j + 1, h1, h => by
  unfold ascV
  rw [asc_no (ks := b :: r) (j := j) (by simpa using h1) (by simpa using h), Bool.and_false]
theorem asc_yes : ∀ {ks : List ValD}, (∀ j, j + 1 < ks.length → cmpV (ks.getD j nilV) (ks.getD (j + 1) nilV) < 0) → ascV ks = true
 | [], _ => rfl
 | [_], _ => rfl
 | a :: b :: r, h => by
  unfold ascV
  rw [decide_eq_true (show cmpV a b < 0 from h 0 (by simp)), asc_yes (ks := b :: r) fun j hj => by
   have := h (j + 1) (by simpa using hj)
   simpa using this]
  rfl
section
variable {l : List TypD} {t : Int} {v : ValD}
theorem pl_1 (g : FitG l t v) (h : (l.getD t.toNat nilT0).kind = 1) : true = plainP l t v := by rw [pl_go g]; simp only [h]; rfl
theorem pl_2y (g : FitG l t v) (h : (l.getD t.toNat nilT0).kind = 2) (hc : (l.getD t.toNat nilT0).low ≤ v.n) : decide (v.n ≤ (l.getD t.toNat nilT0).high) = plainP l t v := by
 rw [pl_go g, if_pos h]; exact decide_eq_decide.2 (by omega)
theorem pl_2n (g : FitG l t v) (h : (l.getD t.toNat nilT0).kind = 2) (hc : ¬ (l.getD t.toNat nilT0).low ≤ v.n) : false = plainP l t v := by
 rw [pl_go g, if_pos h]; exact (decide_eq_false (by omega)).symm
theorem pl_3 (g : FitG l t v) (h : (l.getD t.toNat nilT0).kind = 3) : decide ((v.s.size : Int) ≤ (l.getD t.toNat nilT0).max) = plainP l t v := by
 rw [pl_go g, if_neg (by omega), if_pos h]
theorem pl_4 (g : FitG l t v) (h : (l.getD t.toNat nilT0).kind = 4) : (symAt (l.getD t.toNat nilT0).syms v.id).isSome = plainP l t v := by
 rw [pl_go g, if_neg (by omega), if_neg (by omega), if_pos h]
theorem pl_5 (g : FitG l t v) (h : (l.getD t.toNat nilT0).kind = 5) : (decide (v.items.length = (l.getD t.toNat nilT0).mems.length) && plainMs l (l.getD t.toNat nilT0).mems v.items) = plainP l t v := by
 rw [pl_go g, if_neg (by omega), if_neg (by omega), if_neg (by omega), if_pos h]
theorem pl_5n (g : FitG l t v) (h : (l.getD t.toNat nilT0).kind = 5) (hc : ¬ (v.items.length : Int) = (l.getD t.toNat nilT0).mems.length) : false = plainP l t v := by
 rw [← pl_5 g h, decide_eq_false (by omega)]; rfl
theorem pl_5a (g : FitG l t v) (h : (l.getD t.toNat nilT0).kind = 5) (he : (v.items.length : Int) = (l.getD t.toNat nilT0).mems.length) {k : Nat} (hk : k < v.items.length) (hc : plainP l ((l.getD t.toNat nilT0).mems.getD k nilM0).typ (v.items.getD k nilV) = false) : false = plainP l t v := by
 rw [← pl_5 g h, ms_no (by omega) hk hc, Bool.and_false]
theorem pl_5y (g : FitG l t v) (h : (l.getD t.toNat nilT0).kind = 5) (he : (v.items.length : Int) = (l.getD t.toNat nilT0).mems.length) (hc : ∀ k, k < v.items.length → plainP l ((l.getD t.toNat nilT0).mems.getD k nilM0).typ (v.items.getD k nilV) = true) : true = plainP l t v := by
 rw [← pl_5 g h, ms_yes fun j _ h2 => hc j h2, decide_eq_true (by omega)]; rfl
theorem pl_6 (g : FitG l t v) (h : (l.getD t.toNat nilT0).kind = 6) : (match memAt (l.getD t.toNat nilT0).mems v.id with
      | some j => plainOne l ((l.getD t.toNat nilT0).mems.getD j nilM0).typ v.items
      | none => false) = plainP l t v := by
 rw [pl_go g, if_neg (by omega), if_neg (by omega), if_neg (by omega), if_neg (by omega), if_pos h]
theorem pl_6n (g : FitG l t v) (h : (l.getD t.toNat nilT0).kind = 6) (hc : (memAt (l.getD t.toNat nilT0).mems v.id).isSome = false) : false = plainP l t v := by
 rw [← pl_6 g h]
 cases e : memAt (l.getD t.toNat nilT0).mems v.id with
 | none => rfl
 | some j => rw [e] at hc; cases hc
theorem one_at {T : Int} {is : List ValD} (h : (is.length : Int) = 1) : plainOne l T is = plainP l T (is.getD 0 nilV) := by
 match is, h with
 | [x], _ => unfold plainOne; rfl
 | [], h => simp at h
 | _ :: _ :: _, h => simp at h; omega
theorem one_no {T : Int} {is : List ValD} (h : ¬ (is.length : Int) = 1) : plainOne l T is = false := by
 match is, h with
 | [x], h => simp at h
 | [], _ => unfold plainOne; rfl
 | _ :: _ :: _, _ => unfold plainOne; rfl
theorem pl_6y (g : FitG l t v) (h : (l.getD t.toNat nilT0).kind = 6) (hc : (memAt (l.getD t.toNat nilT0).mems v.id).isSome = true) (h1 : (v.items.length : Int) = 1) : plainP l ((l.getD t.toNat nilT0).mems.getD ((memAt (l.getD t.toNat nilT0).mems v.id).getD 0) nilM0).typ (v.items.getD 0 nilV) = plainP l t v := by
 rw [← pl_6 g h]
 cases e : memAt (l.getD t.toNat nilT0).mems v.id with
 | none => rw [e] at hc; cases hc
 | some j => exact (one_at h1).symm
theorem pl_6o (g : FitG l t v) (h : (l.getD t.toNat nilT0).kind = 6) (h1 : ¬ (v.items.length : Int) = 1) : false = plainP l t v := by
 rw [← pl_6 g h]
 cases e : memAt (l.getD t.toNat nilT0).mems v.id with
 | none => rfl
 | some j => exact (one_no h1).symm
theorem pl_7 (g : FitG l t v) (h : (l.getD t.toNat nilT0).kind = 7) : (decide ((v.items.length : Int) ≤ (l.getD t.toNat nilT0).max) && plainAll l (l.getD t.toNat nilT0).elem v.items) = plainP l t v := by
 rw [pl_go g, if_neg (by omega), if_neg (by omega), if_neg (by omega), if_neg (by omega), if_neg (by omega), if_pos h]
theorem pl_7y (g : FitG l t v) (h : (l.getD t.toNat nilT0).kind = 7) (hc : (v.items.length : Int) ≤ (l.getD t.toNat nilT0).max) : plainAll l (l.getD t.toNat nilT0).elem v.items = plainP l t v := by
 rw [← pl_7 g h, decide_eq_true hc]; rfl
theorem pl_7n (g : FitG l t v) (h : (l.getD t.toNat nilT0).kind = 7) (hc : ¬ (v.items.length : Int) ≤ (l.getD t.toNat nilT0).max) : false = plainP l t v := by
 rw [← pl_7 g h, decide_eq_false hc]; rfl
theorem pl_8 (g : FitG l t v) (h : (l.getD t.toNat nilT0).kind = 8) : (decide ((v.keys.length : Int) ≤ (l.getD t.toNat nilT0).max ∧ v.items.length = v.keys.length) && plainAll l (l.getD t.toNat nilT0).key v.keys && ascV v.keys && plainAll l (l.getD t.toNat nilT0).elem v.items) = plainP l t v := by
 rw [pl_go g, if_neg (by omega), if_neg (by omega), if_neg (by omega), if_neg (by omega), if_neg (by omega), if_neg (by omega), if_pos h]
theorem pl_8n (g : FitG l t v) (h : (l.getD t.toNat nilT0).kind = 8) (hc : ¬ ((v.keys.length : Int) ≤ (l.getD t.toNat nilT0).max ∧ (v.items.length : Int) = v.keys.length)) : false = plainP l t v := by
 rw [← pl_8 g h, decide_eq_false (by omega)]; rfl
theorem pl_8k (g : FitG l t v) (h : (l.getD t.toNat nilT0).kind = 8) (hc : plainAll l (l.getD t.toNat nilT0).key v.keys = false) : false = plainP l t v := by
 rw [← pl_8 g h, hc]; simp
theorem pl_8e (g : FitG l t v) (h : (l.getD t.toNat nilT0).kind = 8) (hc : plainAll l (l.getD t.toNat nilT0).elem v.items = false) : false = plainP l t v := by
 rw [← pl_8 g h, hc]; simp
theorem pl_8a (g : FitG l t v) (h : (l.getD t.toNat nilT0).kind = 8) {j : Nat} (hj : 1 ≤ j) (hj2 : (j : Int) < v.keys.length) (hc : 0 ≤ cmpV (v.keys.getD ((j : Int) - 1).toNat nilV) (v.keys.getD j nilV)) : false = plainP l t v := by
 obtain ⟨i, rfl⟩ : ∃ i, j = i + 1 := ⟨j - 1, by omega⟩
 rw [show (((i + 1 : Nat) : Int) - 1).toNat = i by omega] at hc
 rw [← pl_8 g h, asc_no (j := i) (by omega) (by omega)]; simp
theorem pl_8y (g : FitG l t v) (h : (l.getD t.toNat nilT0).kind = 8) (h1 : (v.keys.length : Int) ≤ (l.getD t.toNat nilT0).max ∧ (v.items.length : Int) = v.keys.length) (h2 : plainAll l (l.getD t.toNat nilT0).key v.keys = true) (hc : ∀ j, j + 1 < v.keys.length → cmpV (v.keys.getD j nilV) (v.keys.getD (j + 1) nilV) < 0) : plainAll l (l.getD t.toNat nilT0).elem v.items = plainP l t v := by
 rw [← pl_8 g h, decide_eq_true (by omega), h2, asc_yes hc]; rfl
theorem pl_9 (g : FitG l t v) (h : (l.getD t.toNat nilT0).kind = 9) : (decide (v.items.length ≤ 1) && plainAll l (l.getD t.toNat nilT0).elem v.items) = plainP l t v := by
 rw [pl_go g, if_neg (by omega), if_neg (by omega), if_neg (by omega), if_neg (by omega), if_neg (by omega), if_neg (by omega), if_neg (by omega), if_pos h]
theorem pl_9y (g : FitG l t v) (h : (l.getD t.toNat nilT0).kind = 9) (hc : (v.items.length : Int) ≤ 1) : plainAll l (l.getD t.toNat nilT0).elem v.items = plainP l t v := by
 rw [← pl_9 g h, decide_eq_true (by omega)]; rfl
theorem pl_9n (g : FitG l t v) (h : (l.getD t.toNat nilT0).kind = 9) (hc : ¬ (v.items.length : Int) ≤ 1) : false = plainP l t v := by
 rw [← pl_9 g h, decide_eq_false (by omega)]; rfl
theorem fitG_of (h1 : ¬ t < 0) (h2 : ¬ (l.length : Int) ≤ t) (h3 : v.kind = (l.getD t.toNat nilT0).kind) (h4 : (!zeroP v) = false) (h5 : ¬ 0 < (v.rest.length : Int)) : FitG l t v := ⟨h1, h2, h3, nf h4, List.length_eq_zero_iff.1 (by omega)⟩
end
def ascTo (ks : List ValD) (k : Nat) : Prop := ∀ j, j + 1 < k → cmpV (ks.getD j nilV) (ks.getD (j + 1) nilV) < 0
theorem rg_all : ∀ (vs : List ValD), smVs vs → ∀ (j : Nat) (v : ValD), vs[j]? = some v → -9223372036854775808 ≤ v.n ∧ v.n ≤ 9223372036854775807
 | [], _, j, v, hv => by simp at hv
 | x :: r, h, j, v, hv => by
  unfold smVs at h
  match j with
  | 0 =>
   simp at hv; subst hv
   obtain ⟨k, b, n, s, i, ks, is, rs⟩ := x
   have h1 := h.1
   unfold smV at h1
   exact h1.1.2.2.2
  | j + 1 => exact rg_all r h.2 j v (by simpa using hv)
theorem rfit1 (l : List TypD) (hS : SchOk l) (t : Int) (v : ValD) (hv : v.keys.length ≤ 5900000000000 ∧ v.items.length ≤ 5900000000000 ∧ v.rest.length ≤ 5900000000000) (hkr : ∀ k, k < v.keys.length → -9223372036854775808 ≤ (v.keys.getD k nilV).n ∧ (v.keys.getD k nilV).n ≤ 9223372036854775807)
    (ihI : ∀ (t : Int) (k : Nat), k < v.items.length → FnSound Tryz.prog 257 [.val true (schC l), .val false [.d (.v (.int .i64 t))], .val true (valC (v.items.getD k nilV)), .val false [.d (.v (.bool true))]] [] { vals := [(false, [.d (.v (.bool (plainP l t (v.items.getD k nilV))))])] })
    (ihA : ∀ (t : Int), FnSound Tryz.prog 311 [.val true (schC l), .val false [.d (.v (.int .i64 t))], .val false [.d (.sl 8 (dVals v.items))], .val false [.d (.v (.bool true))]] [] { vals := [(false, [.d (.v (.bool (plainAll l t v.items)))])] })
    (ihK : ∀ (t : Int), FnSound Tryz.prog 311 [.val true (schC l), .val false [.d (.v (.int .i64 t))], .val false [.d (.sl 8 (dVals v.keys))], .val false [.d (.v (.bool true))]] [] { vals := [(false, [.d (.v (.bool (plainAll l t v.keys)))])] }) :
    FnSound Tryz.prog 257 [.val true (schC l), .val false [.d (.v (.int .i64 t))], .val true (valC v), .val false [.d (.v (.bool true))]] [] { vals := [(false, [.d (.v (.bool (plainP l t v)))])] } := by
 have hty := fun (h1 : 0 ≤ t) (h2 : t < l.length) => typIn_of hS.ok (show t.toNat < l.length by omega)
 have hty9 := fun (h1 : 0 ≤ t) (h2 : t < l.length) => (hty h1 h2).kind
 have htyf := fun (h1 : 0 ≤ t) (h2 : t < l.length) => (hty h1 h2).few
 have hl := hS.sm.1
 refine startW (tm := [(0, _), (1, _), (2, _), (3, _)]) Tryz.func257 rfl Tryz.ntmps257 rfl rfl rfl rfl ?_
 repeat' (first
 |(with_reducible refine rgn 22 2200 ?_ ?_); exact rfl
 |(with_reducible refine rgn 23 2300 ?_ ?_); exact rfl
 |(with_reducible refine rgn 21 2400 ?_ ?_); exact rfl
 |(with_reducible refine rgn 38 3800 ?_ ?_); exact rfl
 |(with_reducible refine rgn 39 3900 ?_ ?_); exact rfl
 |(with_reducible refine rgn 37 4000 ?_ ?_); exact rfl
 |(with_reducible refine K_ca 306 ?_); refine zC (rzero_fn v (by omega)) ?_
 |(with_reducible refine K_ca 307 ?_); (first
 |refine W.call0T rfl BoC.h (rsymbol_fn _ _ (by omega)) rfl rfl rfl ?_
 |refine W.call1T rfl BoC.h (rsymbol_fn _ _ (by omega)) rfl rfl rfl rfl rfl ?_)
 |(with_reducible refine K_ca 309 ?_); (first
 |refine W.call0A rfl BoC.h (rrest_nil _ _ (List.length_eq_zero_iff.1 (by omega))) rfl rfl rfl ?_
 |refine W.call1A rfl BoC.h (rrest_nil _ _ (List.length_eq_zero_iff.1 (by omega))) rfl rfl rfl rfl rfl ?_)
 |(with_reducible refine K_ca 257 ?_); (first
 |refine W.call0A rfl BoC.h (ihI _ _ (by omega)) rfl rfl rfl ?_
 |refine W.call1A rfl BoC.h (ihI _ _ (by omega)) rfl rfl rfl rfl rfl ?_
 |refine W.call0A rfl BoC.h (ihI _ 0 (by omega)) rfl rfl rfl ?_
 |refine W.call1A rfl BoC.h (ihI _ 0 (by omega)) rfl rfl rfl rfl rfl ?_)
 |(with_reducible refine K_ca 310 ?_); (first
 |refine W.call0T rfl BoC.h (rmember_fn _ _ (by omega)) rfl rfl rfl ?_
 |refine W.call1T rfl BoC.h (rmember_fn _ _ (by omega)) rfl rfl rfl rfl rfl ?_)
 |(with_reducible refine K_ca 311 ?_); (first
 |refine zC (ihA _) ?_
 |refine zC (ihK _) ?_)
 |(with_reducible refine K_ca 312 ?_); (first
 |refine W.call0A rfl BoC.h (rcompare_fn _ _ (hkr _ (by omega)) (hkr _ (by omega))) rfl rfl rfl ?_
 |refine W.call1A rfl BoC.h (rcompare_fn _ _ (hkr _ (by omega)) (hkr _ (by omega))) rfl rfl rfl rfl rfl ?_)
 |(with_reducible refine blk_at (id := 1) ?_); ((with_reducible refine JL.loopW 1 2099 (fun (k : Nat) tm => (12, .one false [.d (.v (.int .i64 ((k : Int))))]) :: tm) (fun (k : Nat) bo => bo) (fun (k : Nat) => k ≤ v.items.length ∧ ∀ j, j < k → plainP l ((l.getD t.toNat nilT0).mems.getD j nilM0).typ (v.items.getD j nilV) = true) (fun (k : Nat) => v.items.length - k) (0) ?_ (fun k hk => ?_) ?_); (focus (apply SubW [] rfl ?_ ?_ rfl ?_; (repeat' (first | exact kA | refine kB ?_ | refine kC ?_ ?_ | exact kD | fail)))))
 |((with_reducible refine round_next (i := k) (k + 1) ?_ ?_ ?_); (focus (apply SubW [] rfl ?_ ?_ rfl ?_; (repeat' (first | exact kA | refine kB ?_ | refine kC ?_ ?_ | exact kD | fail)))))
 |(with_reducible refine blk_at (id := 3) ?_); ((with_reducible refine JL.loopW 3 3699 (fun (j : Nat) tm => (15, .one false [.d (.v (.int .i64 ((j : Int))))]) :: tm) (fun (j : Nat) bo => bo) (fun (j : Nat) => (j ≤ v.keys.length ∨ j = 1) ∧ 1 ≤ j ∧ ascTo v.keys j) (fun (j : Nat) => v.keys.length - j) (1) ?_ (fun j hj => ?_) ?_); (focus (apply SubW [] rfl ?_ ?_ rfl ?_; (repeat' (first | exact kA | refine kB ?_ | refine kC ?_ ?_ | exact kD | fail)))))
 |((with_reducible refine round_next (i := j) (j + 1) ?_ ?_ ?_); (focus (apply SubW [] rfl ?_ ?_ rfl ?_; (repeat' (first | exact kA | refine kB ?_ | refine kC ?_ ?_ | exact kD | fail)))))
 |refine wA ?_
 |(refine wC ?_ ?_ <;> intro hc)
 |refine wB ?_ ?_
 |(with_reducible refine JL.block ?_)
 |(with_reducible refine F_at ?_); refine eW (vs := [(_, _)]) Tryz.results257 ?_; (focus (repeat' (first | exact oA | refine oB ?_ | refine oC ?_ ?_ | fail)))
 |exact oM
 |fail)
 all_goals first
  | with_reducible rfl
  | omega
  | exact pl_out (by omega)
  | exact pl_bad (by assumption) (by assumption) (.inl hc)
  | exact pl_bad (by assumption) (by assumption) (.inr (.inl (nt hc)))
  | (refine pl_bad (by assumption) (by assumption) (.inr (.inr ?_)); intro e; rw [e] at hc; simp at hc; done)
  | exact ⟨Nat.zero_le _, fun j hj => absurd hj (Nat.not_lt_zero j)⟩
  | exact ⟨.inr rfl, Nat.le_refl 1, fun j hj => by omega⟩
  | exact memAt_lt (by assumption)
  | (have G := fitG_of (l := l) (t := t) (v := v) (by assumption) (by assumption) (by assumption) (by assumption) (by assumption)
     first
      | exact pl_1 G (by assumption)
      | exact pl_2y G (by assumption) hc
      | exact pl_2n G (by assumption) hc
      | exact pl_3 G (by assumption)
      | exact hc.symm.trans (pl_4 G (by assumption))
      | exact (by assumption : (symAt _ _).isSome = false).symm.trans (pl_4 G (by assumption))
      | exact pl_5n G (by assumption) hc
      | exact pl_5a G (by assumption) (by assumption) (k := k) (by omega) (nt hc)
      | exact ⟨by omega, lt_next hk.2 (nf hc)⟩
      | exact pl_5y G (by assumption) (by assumption) (fun j hj => hk.2 j (by omega))
      | exact pl_6y G (by assumption) (by assumption) (by assumption)
      | exact pl_6o G (by assumption) hc
      | exact pl_6n G (by assumption) (by assumption)
      | exact pl_7y G (by assumption) hc
      | exact pl_7n G (by assumption) hc
      | exact pl_8n G (by assumption) (by omega)
      | exact pl_8k G (by assumption) (nt hc)
      | exact pl_8e G (by assumption) (nt hc)
      | exact pl_8a G (by assumption) hj.2.1 (by assumption) hc
      | (refine ⟨.inl (by omega), by omega, fun i hi => ?_⟩
         rcases Nat.lt_or_ge (i + 1) j with e | e
         ·exact hj.2.2 i e
         ·rw [show i = ((j : Int) - 1).toNat by omega, show ((j : Int) - 1).toNat + 1 = j by omega]; omega)
      | exact (nf (b := plainAll l (l.getD t.toNat nilT0).elem v.items) (by assumption)).symm.trans (pl_8y G (by assumption) (by omega) (nf (by assumption)) (fun i hi => hj.2.2 i (by omega)))
      | exact pl_9y G (by omega) hc
      | exact pl_9n G (by omega) hc
      | fail)
  | trace_state
mutual
theorem rfit_fn (l : List TypD) (hS : SchOk l) : ∀ (v : ValD), smV v → ∀ (t : Int), FnSound Tryz.prog 257 [.val true (schC l), .val false [.d (.v (.int .i64 t))], .val true (valC v), .val false [.d (.v (.bool true))]] [] { vals := [(false, [.d (.v (.bool (plainP l t v)))])] }
 | .mk k b n s i ks is rs, h, t => by
  unfold smV at h
  exact rfit1 l hS t (.mk k b n s i ks is rs) ⟨h.1.1, h.1.2.1, h.1.2.2.1⟩ (fun j hj => rg_all ks h.2.1 j _ (getD_eq hj)) (fun t j hj => rfit_all l hS is h.2.2 j _ (getD_eq hj) t) (fun t => rall_fn l t is h.1.2.1 (fun j hj => rfit_all l hS is h.2.2 j _ (getD_eq hj) t)) (fun t => rall_fn l t ks h.1.1 (fun j hj => rfit_all l hS ks h.2.1 j _ (getD_eq hj) t))
theorem rfit_all (l : List TypD) (hS : SchOk l) : ∀ (vs : List ValD), smVs vs → ∀ (j : Nat) (v : ValD), vs[j]? = some v → ∀ (t : Int), FnSound Tryz.prog 257 [.val true (schC l), .val false [.d (.v (.int .i64 t))], .val true (valC v), .val false [.d (.v (.bool true))]] [] { vals := [(false, [.d (.v (.bool (plainP l t v)))])] }
 | [], _, j, v, hv, t => by simp at hv
 | x :: r, h, j, v, hv, t => by
  unfold smVs at h
  match j with
  | 0 => simp at hv; subst hv; exact rfit_fn l hS x h.1 t
  | j + 1 => exact rfit_all l hS r h.2 j v (by simpa using hv) t
end
theorem rplain8_fn (l : List TypD) (hS : SchOk l) (t : Int) (v : ValD) (hv : smV v) : FnSound Tryz.prog 204 [.val true (schC l), .val false [.d (.v (.int .i64 t))], .val true (valC v)] [] { vals := [(false, [.d (.v (.bool (plainP l t v)))])] } := by
 have h := rfit_fn l hS v hv t
 refine startW (tm := [(0, _), (1, _), (2, _)]) Tryz.func204 rfl Tryz.ntmps204 rfl rfl rfl rfl ?_
 repeat' (first
 |(with_reducible refine K_ca 257 ?_); refine zC (h) ?_
 |refine wA ?_
 |(refine wC ?_ ?_ <;> intro hc)
 |refine wB ?_ ?_
 |(with_reducible refine JL.block ?_)
 |(with_reducible refine F_at ?_); refine eW (vs := [(_, _)]) Tryz.results204 ?_; (focus (repeat' (first | exact oA | refine oB ?_ | refine oC ?_ ?_ | fail)))
 |exact oM
 |fail)
 all_goals first | rfl | trace_state
end Go.Proofs.YtgehafnodibhpaaGreatDoor

namespace Go.Proofs.YtgehafnodibhpaaGreatDoor
open Go Go.RowKit
set_option maxRecDepth 100000
set_option maxHeartbeats 8000000
set_option linter.unusedSimpArgs false
set_option linter.unusedVariables false
def zeroTC : List C := [.d (.v (.int .i64 0)), .d (.v (.string ByteArray.empty)), .d (.v (.int .i64 0)), .d (.v (.int .i64 0)), .d (.v (.int .i64 0)), .zero, .zero, .d (.v (.int .i64 0)), .d (.v (.int .i64 0)), .d (.v (.bool false))]
theorem eqSyms_nil (l : List SymD) : FnSound Tryz.prog 316 [.val false [.d (.sl 2 (dSyms l))], .val false [.zero]] [] { vals := [(false, [.d (.v (.bool l.isEmpty))])] } := by
 refine startW (tm := [(0, _), (1, _)]) Tryz.func316 rfl Tryz.ntmps316 rfl rfl rfl rfl ?_
 repeat' (first
 |(with_reducible refine blk_at (id := 0) ?_); ((with_reducible refine JL.loopW 0 499 (fun (k : Nat) tm => (13, .one false [.d (.v (.int .i64 ((k : Int))))]) :: tm) (fun (k : Nat) bo => bo) (fun (k : Nat) => k ≤ l.length ∧ l = []) (fun (k : Nat) => l.length - k) (0) ?_ (fun k hk => ?_) ?_); (focus (apply SubW [] rfl ?_ ?_ rfl ?_; (repeat' (first | exact kA | refine kB ?_ | refine kC ?_ ?_ | exact kD | fail)))))
 |((with_reducible refine round_next (i := k) (k + 1) ?_ ?_ ?_); (focus (apply SubW [] rfl ?_ ?_ rfl ?_; (repeat' (first | exact kA | refine kB ?_ | refine kC ?_ ?_ | exact kD | fail)))))
 |refine wA ?_
 |(refine wC ?_ ?_ <;> intro hc)
 |refine wB ?_ ?_
 |(with_reducible refine JL.block ?_)
 |(with_reducible refine F_at ?_); refine eW (vs := [(_, _)]) Tryz.results316 ?_; (focus (repeat' (first | exact oA | refine oB ?_ | refine oC ?_ ?_ | fail)))
 |exact oM
 |fail)
 all_goals first
  | rfl
  | omega
  | (rw [hk.2]; rfl)
  | exact ⟨Nat.zero_le _, List.length_eq_zero_iff.1 (by omega)⟩
  | (exfalso; rw [hk.2] at hc; simp at hc; done)
  | (cases l with
     | nil => exact absurd rfl hc
     | cons x r => rfl)
  | trace_state
theorem eqMems_nil (l : List MemD) (F : FuncId) : FnSound Tryz.prog 317 [.val false [.d (.sl 13 (dMems l))], .val false [.zero], .val false [.d (.v (.func (.func F) #[] #[]))]] [] { vals := [(false, [.d (.v (.bool l.isEmpty))])] } := by
 refine startW (tm := [(0, _), (1, _), (2, _)]) Tryz.func317 rfl Tryz.ntmps317 rfl rfl rfl rfl ?_
 repeat' (first
 |(with_reducible refine blk_at (id := 0) ?_); ((with_reducible refine JL.loopW 0 499 (fun (k : Nat) tm => (17, .one false [.d (.v (.int .i64 ((k : Int))))]) :: tm) (fun (k : Nat) bo => bo) (fun (k : Nat) => k ≤ l.length ∧ l = []) (fun (k : Nat) => l.length - k) (0) ?_ (fun k hk => ?_) ?_); (focus (apply SubW [] rfl ?_ ?_ rfl ?_; (repeat' (first | exact kA | refine kB ?_ | refine kC ?_ ?_ | exact kD | fail)))))
 |((with_reducible refine round_next (i := k) (k + 1) ?_ ?_ ?_); (focus (apply SubW [] rfl ?_ ?_ rfl ?_; (repeat' (first | exact kA | refine kB ?_ | refine kC ?_ ?_ | exact kD | fail)))))
 |refine wA ?_
 |(refine wC ?_ ?_ <;> intro hc)
 |refine wB ?_ ?_
 |(with_reducible refine JL.block ?_)
 |(with_reducible refine F_at ?_); refine eW (vs := [(_, _)]) Tryz.results317 ?_; (focus (repeat' (first | exact oA | refine oB ?_ | refine oC ?_ ?_ | fail)))
 |exact oM
 |fail)
 all_goals first
  | rfl
  | omega
  | (rw [hk.2]; rfl)
  | exact ⟨Nat.zero_le _, List.length_eq_zero_iff.1 (by omega)⟩
  | (exfalso; rw [hk.2] at hc; simp at hc; done)
  | (cases l with
     | nil => exact absurd rfl hc
     | cons x r => rfl)
  | trace_state
def blankT (t : TypD) : Bool := decide (t.kind = 0) && decide (t.name = ByteArray.empty) && decide (t.low = 0) && decide (t.high = 0) && decide (t.max = 0) && decide (t.key = 0) && decide (t.elem = 0) && !t.opn && t.syms.isEmpty && t.mems.isEmpty
theorem pequal0_fn (t : TypD) : FnSound Tryz.prog 265 [.val true (typC t), .val true zeroTC] [] { vals := [(false, [.d (.v (.bool (blankT t)))])] } := by
 refine startW (tm := [(0, _), (1, _)]) Tryz.func265 rfl Tryz.ntmps265 rfl rfl rfl rfl ?_
 repeat' (first
 |(with_reducible refine K_ca 316 ?_); refine zC (eqSyms_nil _) ?_
 |(with_reducible refine K_ca 317 ?_); refine zC (eqMems_nil _ _) ?_
 |(with_reducible refine W_at ?_); (first
 |(with_reducible refine W.consA ?_)
 |(with_reducible refine W.nilA ?_))
 |refine wA ?_
 |(refine wC ?_ ?_ <;> intro hc)
 |refine wB ?_ ?_
 |(with_reducible refine JL.block ?_)
 |(with_reducible refine F_at ?_); refine eW (vs := [(_, _)]) Tryz.results265 ?_; (focus (repeat' (first | exact oA | refine oB ?_ | refine oC ?_ ?_ | fail)))
 |exact oM
 |fail)
 all_goals first
  | rfl
  | (unfold blankT; simp_all; done)
  | trace_state
def restT (t : TypD) : TypD :=
 ⟨0, if t.kind = 4 ∨ t.kind = 5 ∨ t.kind = 6 then ByteArray.empty else t.name, if t.kind = 2 then 0 else t.low, if t.kind = 2 then 0 else t.high, if t.kind = 3 ∨ t.kind = 7 ∨ t.kind = 8 then 0 else t.max, if t.kind = 4 then [] else t.syms, if t.kind = 5 ∨ t.kind = 6 then [] else t.mems, if t.kind = 8 then 0 else t.key, if 7 ≤ t.kind then 0 else t.elem, if t.kind = 4 ∨ t.kind = 6 then false else t.opn⟩
theorem rest_only {t : TypD} (h : 1 ≤ t.kind ∧ t.kind ≤ 9) : blankT (restT t) = onlyP t := by
 rw [Bool.eq_iff_iff]
 simp only [blankT, restT, onlyP, Bool.and_eq_true, Bool.or_eq_true, decide_eq_true_eq, List.isEmpty_iff, Bool.not_eq_true']
 grind
theorem form_eq {t : TypD} (h : 1 ≤ t.kind ∧ t.kind ≤ 9) : formP t = (blankT (restT t) && (!decide (t.kind = 4 ∨ t.kind = 5 ∨ t.kind = 6) || isNameP t.name) && (!decide (t.kind = 2) || decide (t.low ≤ t.high)) && (!decide (t.kind = 3) || decide (0 ≤ t.max ∧ t.max ≤ 200)) &&
 (!decide (t.kind = 4) || symsP t.syms) && (!decide (t.kind = 5 ∨ t.kind = 6) || memsP (decide (t.kind = 5)) t.mems) && (!decide (t.kind = 7 ∨ t.kind = 8) || decide (0 ≤ t.max ∧ t.max ≤ 50))) := by
 rw [rest_only h]
 unfold formP
 rw [decide_eq_true h, Bool.true_and]
theorem pform_fn (t : TypD) (hl : t.syms.length ≤ 5900000000000 ∧ t.mems.length ≤ 5900000000000) : FnSound Tryz.prog 215 [.val true (typC t)] [] { vals := [(false, [.d (.v (.bool (formP t)))])] } := by
 refine startW (tm := [(0, _)]) Tryz.func215 rfl Tryz.ntmps215 rfl rfl rfl rfl ?_
 repeat' (first
 |(with_reducible refine rgn 6 600 ?_ ?_); exact rfl
 |(with_reducible refine rgn 7 700 ?_ ?_); exact rfl
 |(with_reducible refine rgn 8 800 ?_ ?_); exact rfl
 |(with_reducible refine rgn 9 900 ?_ ?_); exact rfl
 |(with_reducible refine rgn 10 1000 ?_ ?_); exact rfl
 |(with_reducible refine rgn 11 1100 ?_ ?_); exact rfl
 |(with_reducible refine rgn 12 1200 ?_ ?_); exact rfl
 |(with_reducible refine rgn 13 1300 ?_ ?_); exact rfl
 |(with_reducible refine rgn 14 1400 ?_ ?_); exact rfl
 |(with_reducible refine rgn 15 1500 ?_ ?_); exact rfl
 |(with_reducible refine rgn 16 1600 ?_ ?_); exact rfl
 |(with_reducible refine rgn 17 1700 ?_ ?_); exact rfl
 |(with_reducible refine rgn 18 1800 ?_ ?_); exact rfl
 |(with_reducible refine rgn 19 1900 ?_ ?_); exact rfl
 |(with_reducible refine rgn 20 2000 ?_ ?_); exact rfl
 |(with_reducible refine rgn 21 2100 ?_ ?_); exact rfl
 |(with_reducible refine rgn 22 2200 ?_ ?_); exact rfl
 |(with_reducible refine rgn 23 2300 ?_ ?_); exact rfl
 |(with_reducible refine rgn 24 2400 ?_ ?_); exact rfl
 |(with_reducible refine rgn 25 2500 ?_ ?_); exact rfl
 |(with_reducible refine rgn 26 2600 ?_ ?_); exact rfl
 |(with_reducible refine rgn 27 2700 ?_ ?_); exact rfl
 |(with_reducible refine rgn 28 2800 ?_ ?_); exact rfl
 |(with_reducible refine rgn 5 2900 ?_ ?_); exact rfl
 |(with_reducible refine reg_at (id := 29) ?_); (try (refine JL.zeroBW (cs2 := [_, _, _, _, _, _, _, _, _, _]) (64, 200) 5 _ 332 2 rfl rfl rfl rfl ?_)); (try (refine JL.shutBW (cs2 := [_, _, _, _, _, _, _, _, _, _]) (64, 200) 5 rfl rfl rfl rfl ?_)); (try (refine JL.zeroBW (cs2 := [_, _, _, _, _, _, _, _, _, _]) (64, 200) 6 _ 138 13 rfl rfl rfl rfl ?_)); (try (refine JL.shutBW (cs2 := [_, _, _, _, _, _, _, _, _, _]) (64, 200) 6 rfl rfl rfl rfl ?_)); (with_reducible refine rg ?_ ?_); exact rfl
 |(with_reducible refine K_ca 94 ?_); refine zC (pname_fn _) ?_
 |(with_reducible refine K_ca 263 ?_); refine zC (psymbols_fn _ hl.1) ?_
 |(with_reducible refine K_ca 264 ?_); refine zC (pmembers_fn t hl.2 (by omega)) ?_
 |(with_reducible refine K_ca 265 ?_); (first
 |refine zC (pequal0_fn ⟨_, _, _, _, _, t.syms, t.mems, _, _, _⟩) ?_
 |refine zC (pequal0_fn ⟨_, _, _, _, _, [], t.mems, _, _, _⟩) ?_
 |refine zC (pequal0_fn ⟨_, _, _, _, _, t.syms, [], _, _, _⟩) ?_)
 |refine wA ?_
 |(refine wC ?_ ?_ <;> intro hc)
 |refine wB ?_ ?_
 |(with_reducible refine JL.block ?_)
 |(with_reducible refine F_at ?_); refine eW (vs := [(_, _)]) Tryz.results215 ?_; (focus (repeat' (first | exact oA | refine oB ?_ | refine oC ?_ ?_ | fail)))
 |exact oM
 |fail)
 all_goals first
  | with_reducible rfl
  | (rw [form_eq (by omega)]; unfold restT blankT; dsimp only; (try simp only [*]); simp; done)
  | (rw [form_eq (by omega)]; unfold restT blankT; dsimp only; simp_all; done)
  | (show blankT ⟨0, ByteArray.empty, t.low, t.high, t.max, [], t.mems, t.key, t.elem, false⟩ = formP t; rw [form_eq (by omega)]; unfold restT blankT; dsimp only; simp_all; done)
  | (show blankT ⟨0, ByteArray.empty, t.low, t.high, t.max, t.syms, [], t.key, t.elem, decide (t.kind = 5)⟩ = formP t; rw [form_eq (by omega)]; unfold restT blankT; dsimp only; simp_all; done)
  | (show blankT ⟨0, ByteArray.empty, t.low, t.high, t.max, t.syms, [], t.key, t.elem, false⟩ = formP t; rw [form_eq (by omega)]; unfold restT blankT; dsimp only; simp_all; done)
  | (unfold formP; rw [decide_eq_false (by omega)]; rfl)
  | trace_state
theorem puses_fn (t : TypD) (hm : t.mems.length ≤ 5900000000000) : FnSound Tryz.prog 216 [.val true (typC t)] [] { vals := [(false, [.d (.sl 1 (dInts (usesP t)))])] } := by
 refine startW (tm := [(0, _)]) Tryz.func216 rfl Tryz.ntmps216 rfl rfl rfl rfl ?_
 repeat' (first
 |(with_reducible refine blk_at (id := 0) ?_); (try (refine JL.zeroW 3 _ 3 1 rfl rfl ?_)); (refine JL.rekW 3 (1048, 351) rfl rfl rfl rfl ?_); ((with_reducible refine JL.loopW 0 399 (fun (k : Nat) tm => (9, .one false [.d (.v (.int .i64 ((k : Int))))]) :: (3, .one false [.own (1048, 351)]) :: tm) (fun (k : Nat) bo => ((1048, 351), some (.sl 3 1 ((dInts ((t.mems.take k).map (·.typ)))))) :: bo) (fun (k : Nat) => k ≤ t.mems.length) (fun (k : Nat) => t.mems.length - k) (0) ?_ (fun k hk => ?_) ?_); (focus (apply SubW [((1048, 351), _)] rfl ?_ ?_ rfl ?_; (repeat' (first | exact kA | refine kB ?_ | refine kC ?_ ?_ | exact kD | fail)))))
 |((with_reducible refine round_next (i := k) (k + 1) ?_ ?_ ?_); (focus (apply SubW [((1048, 351), _)] rfl ?_ ?_ rfl ?_; (repeat' (first | exact kA | refine kB ?_ | refine kC ?_ ?_ | exact kD | fail)))))
 |refine wA ?_
 |(refine wC ?_ ?_ <;> intro hc)
 |refine wB ?_ ?_
 |(with_reducible refine JL.block ?_)
 |(with_reducible refine F_at ?_); refine eW (vs := [(_, _)]) Tryz.results216 ?_; (focus (repeat' (first | exact oA | refine oB ?_ | refine oC ?_ ?_ | fail)))
 |exact oM
 |fail)
 all_goals first | rfl | omega | (rw [typ_next (by omega)]; done) | exact ⟨by simp, fun i hi => absurd hi (Nat.not_lt_zero i)⟩ | (refine congrArg dInts ?_; rw [List.take_of_length_le (by omega)]; unfold usesP; (repeat (first | rw [if_pos (by omega)] | rw [if_neg (by omega)])); (try simp); done) | trace_state
end Go.Proofs.YtgehafnodibhpaaGreatDoor

namespace Go.Proofs.YtgehafnodibhpaaGreatDoor
open Go Go.RowKit
set_option maxRecDepth 100000
set_option maxHeartbeats 8000000
set_option linter.unusedSimpArgs false
set_option linter.unusedVariables false
def nmsT (l : List TypD) : Nat → List ByteArray
 | 0 => []
 | i + 1 => addS (nmsT l i) (l.getD i nilT0).name
theorem hasS_add {l : List ByteArray} {s x : ByteArray} : hasS (addS l s) x = (hasS l x || decide (s = x)) := by
 unfold addS
 split
 ·rename_i h
  by_cases e : s = x
  ·subst e; rw [h]; rfl
  ·rw [decide_eq_false e, Bool.or_false]
 ·unfold hasS
  rw [List.any_append]
  simp
theorem nmsT_has (l : List TypD) (x : ByteArray) : ∀ i, hasS (nmsT l i) x = (List.range i).any fun k => decide ((l.getD k nilT0).name = x)
 | 0 => rfl
 | i + 1 => by
  unfold nmsT
  rw [hasS_add, nmsT_has l x i, List.range_succ, List.any_append]
  simp
theorem nmsT_dup (l : List TypD) (i : Nat) : hasS (nmsT l i) (l.getD i nilT0).name = dupT l i := nmsT_has l _ i
theorem name_named {t : TypD} (h : formP t = true) : ¬ t.name = ⟨#[]⟩ ↔ namedK t.kind = true := by
 unfold formP at h
 simp only [Bool.and_eq_true, Bool.or_eq_true, Bool.not_eq_true', decide_eq_false_iff_not, decide_eq_true_eq] at h
 obtain ⟨⟨⟨⟨⟨⟨⟨_, h1⟩, h2⟩, _⟩, _⟩, _⟩, _⟩, _⟩ := h
 unfold namedK
 rw [decide_eq_true_eq]
 constructor
 ·intro hn
  refine Decidable.by_contra fun g => hn ?_
  simp only [onlyP, Bool.and_eq_true, Bool.or_eq_true, decide_eq_true_eq] at h1
  exact h1.1.1.1.1.1.1.1.resolve_left g
 ·intro g hn
  have h3 := h2.resolve_left (not_not_intro g)
  rw [hn] at h3
  revert h3
  decide
theorem typ_dup2 {l : List TypD} {i : Nat} (h : formP (l.getD i nilT0) = true) (hn : ¬ (l.getD i nilT0).name = ⟨#[]⟩) (hd : hasS (nmsT l i) (l.getD i nilT0).name = true) : typErr l i = 1 := by
 unfold typErr; rw [if_pos (.inr ⟨(name_named h).1 hn, by rw [← nmsT_dup]; exact hd⟩)]
theorem typGo2 {l : List TypD} {i : Nat} (h : formP (l.getD i nilT0) = true) (hd : (l.getD i nilT0).name = ⟨#[]⟩ ∨ hasS (nmsT l i) (l.getD i nilT0).name = false) : typGo l i := by
 rintro (g | ⟨g, g2⟩)
 ·rw [h] at g; cases g
 ·rcases hd with hd | hd
  ·exact (name_named h).2 g hd
  ·rw [nmsT_dup, g2] at hd; cases hd
theorem pschema_fn (l : List TypD) (hs : smTs l) : FnSound Tryz.prog 152 [.val true (schC l)] [] { vals := [(false, [.d (.v (.int .i64 (schemaErr l)))])] } := by
 obtain ⟨hl, ht⟩ := hs
 have hur := fun (i : Nat) (h : i < l.length) => usesR_few (ht i h).1.2
 refine startW (tm := [(0, _)]) Tryz.func152 rfl Tryz.ntmps152 rfl rfl rfl rfl ?_
 repeat' (first
 |(with_reducible refine K_ca 215 ?_); (first
 |refine W.call0A rfl BoC.h (pform_fn _ (ht _ (by omega)).1) rfl rfl rfl ?_
 |refine W.call1A rfl BoC.h (pform_fn _ (ht _ (by omega)).1) rfl rfl rfl rfl rfl ?_)
 |(with_reducible refine K_ca 216 ?_); (first
 |refine W.call0A rfl BoC.h (puses_fn _ (ht _ (by omega)).1.2) rfl rfl rfl ?_
 |refine W.call1A rfl BoC.h (puses_fn _ (ht _ (by omega)).1.2) rfl rfl rfl rfl rfl ?_)
 |(with_reducible refine W_at ?_); (first
 |(refine W.mapNew _ rfl m64 ?_)
 |(refine W.mapGet mp_sb rfl rfl rfl rfl ?_)
 |(refine W.mapPut mp_sb rfl rfl rfl rfl ?_))
 |(with_reducible refine blk_at (id := 0) ?_); ((with_reducible refine JL.loopW 0 599 (fun (i : Nat) tm => (16, .one false [.d (.v (.int .i64 ((i : Int))))]) :: tm) (fun (i : Nat) bo => ((0, 400), some (.mp (mEnts 0 (nmsT l i)).toArray (nmsT l i).length)) :: bo) (fun (i : Nat) => i ≤ l.length ∧ ∀ j, j < i → typErr l j = 0) (fun (i : Nat) => l.length - i) (0) ?_ (fun i hi => ?_) ?_); (focus (apply SubW [] rfl ?_ ?_ rfl ?_; (repeat' (first | exact kA | refine kB ?_ | refine kC ?_ ?_ | exact kD | fail)))))
 |((with_reducible refine round_next (i := i) (i + 1) ?_ ?_ ?_); (focus (apply SubW [] rfl ?_ ?_ rfl ?_; (repeat' (first | exact kA | refine kB ?_ | refine kC ?_ ?_ | exact kD | fail)))))
 |(with_reducible refine blk_at (id := 2) ?_); ((with_reducible refine JL.loopW 2 1199 (fun (u : Nat) tm => (40, .one false [.d (.v (.int .i64 ((u : Int))))]) :: tm) (fun (u : Nat) bo => bo) (fun (u : Nat) => u ≤ (usesP (l.getD i nilT0)).length ∧ typGo l i ∧ ∀ j, j < u → outT l.length ((usesP (l.getD i nilT0)).getD j 0) = false) (fun (u : Nat) => (usesP (l.getD i nilT0)).length - u) (0) ?_ (fun u hu => have hui := hur i (by omega); have hus := usesR_eq (nf (b := formP (l.getD i nilT0)) (by assumption)); have hlen := congrArg List.length hus; ?_) ?_); (focus (apply SubW [] rfl ?_ ?_ rfl ?_; (repeat' (first | exact kA | refine kB ?_ | refine kC ?_ ?_ | exact kD | fail)))))
 |((with_reducible refine round_next (i := u) (u + 1) ?_ ?_ ?_); (focus (apply SubW [] rfl ?_ ?_ rfl ?_; (repeat' (first | exact kA | refine kB ?_ | refine kC ?_ ?_ | exact kD | fail)))))
 |refine wA ?_
 |(refine wC ?_ ?_ <;> intro hc)
 |refine wB ?_ ?_
 |(with_reducible refine JL.block ?_)
 |(with_reducible refine F_at ?_); refine eW (vs := [(_, _)]) Tryz.results152 ?_; (focus (repeat' (first | exact oA | refine oB ?_ | refine oC ?_ ?_ | fail)))
 |exact oM
 |fail)
 all_goals first
  | with_reducible rfl
  | omega
  | exact schema_many hc
  | exact schema_end (by assumption) hc hi.2
  | exact schema_at (by assumption) (by omega) hi.2 (typ_form (nt hc)) (by decide)
  | exact schema_at (by assumption) (by omega) hi.2 (typ_dup2 (nf (by assumption)) (by assumption) hc) (by decide)
  | exact schema_at (by assumption) (by omega) hi.2 (typ_out (j := u) hu.2.1 (by omega) (decide_eq_true (by omega))) (by decide)
  | exact ⟨by omega, hu.2.1, lt_next hu.2.2 (decide_eq_false (by omega))⟩
  | exact uses_key (by assumption) (fun j hj => hu.2.2 j (by omega))
  | (refine schema_at (by assumption) (by omega) hi.2 (typ_key hu.2.1 (fun j hj => hu.2.2 j (by omega)) ⟨by assumption, ?_⟩) (by decide); omega)
  | (refine ⟨by omega, lt_next hi.2 (typ_ok hu.2.1 (fun j hj => hu.2.2 j (by omega)) ?_)⟩; omega)
  | exact ⟨Nat.zero_le _, typGo2 (nf (by assumption)) (.inr (by assumption)), fun j hj => absurd hj (Nat.not_lt_zero j)⟩
  | exact ⟨Nat.zero_le _, typGo2 (nf (by assumption)) (.inl (by simpa using hc)), fun j hj => absurd hj (Nat.not_lt_zero j)⟩
  | exact ⟨Nat.zero_le _, fun j hj => absurd hj (Nat.not_lt_zero j)⟩
  | rfl
  | trace_state
end Go.Proofs.YtgehafnodibhpaaGreatDoor

namespace Go.Proofs.YtgehafnodibhpaaGreatDoor
open Go Go.RowKit
set_option linter.unusedSimpArgs false
set_option linter.unusedVariables false
section
variable {P : Program} {lend : FuncId → Bool} {N : Nat} {ops : Array Oper} {dr : Bool} {cs : List Code} {R : AX → St → Prop} {i : Nat} {os : List Oper} {tm : List (Nat × AV)} {bo : BO} {nx : Nat} {ns : List Note} {d : Nat} {pos : String} {ty : TypeId} {af : Array Edge}
theorem W.mkfn {g : FuncId} {cap : Array Operand} {cps : List Cap} (hd : Nat.blt d N = true) (he : effMakeFunc (.func g) [] cap.toList (onlyT ⟨some d, .makeFunc (.func g) #[] cap, ty, pos, af, none⟩ (lk tm)) = some { av := .one false [.fn g cps] })
    (h : W P lend N ops dr cs R (i + 1) os ((d, .one false [.fn g cps]) :: tm) bo nx (ns ++ [⟨opKeys (lk tm) (lko bo) ⟨some d, .makeFunc (.func g) #[] cap, ty, pos, af, none⟩, []⟩])) : W P lend N ops dr cs R i (⟨some d, .makeFunc (.func g) #[] cap, ty, pos, af, none⟩ :: os) tm bo nx ns :=
 W.eff (call := fun _ _ _ => none) (fun _ _ _ _ h => by cases h) rfl (fun k hk => by cases hk; exact Nat.le_of_ble_eq_true hd) he (updT_cons _ _ _) (updB_0 bo) h
theorem W.callC {f : Operand} {g : FuncId} {args : Array Operand} {tyq : Array TypeId} {xs : List (Bool × List C)} {caps cz : List C} {z : List Key} {c0 : C} {b : Bool} {cr : List C} (hd : Nat.blt d N = true) (hbod : BoI P g) (hcal : calleeOf (onlyT ⟨some d, .call ⟨.value f, args, tyq⟩, ty, pos, af, none⟩ (lk tm)) f = some (g, c0 :: caps))
    (ha : argsOf (onlyT ⟨some d, .call ⟨.value f, args, tyq⟩, ty, pos, af, none⟩ (lk tm)) (onlyB (opKeys (lk tm) (lko bo) ⟨some d, .call ⟨.value f, args, tyq⟩, ty, pos, af, none⟩) (lko bo)) true args.toList = some (xs, []))
    (hz : argVals (onlyB (opKeys (lk tm) (lko bo) ⟨some d, .call ⟨.value f, args, tyq⟩, ty, pos, af, none⟩) (lko bo)) true (c0 :: caps) = some (cz, z))
    (hK : FnSound P g ((xs ++ cz.map fun c => (false, [c])).map fun y => Arg.val y.1 y.2) [] { vals := [(b, cr)] })
    (hr : resOk { vals := [(b, cr)] } true = true) (hcl : ARes.closed { vals := [(b, cr)] } = true)
    (h : W P lend N ops dr cs R (i + 1) os ((d, .one b cr) :: tm) bo nx (ns ++ [⟨opKeys (lk tm) (lko bo) ⟨some d, .call ⟨.value f, args, tyq⟩, ty, pos, af, none⟩, []⟩])) : W P lend N ops dr cs R i (⟨some d, .call ⟨.value f, args, tyq⟩, ty, pos, af, none⟩ :: os) tm bo nx ns := by
 obtain ⟨hbod⟩ := hbod
 refine W.eff (call := oneCall g ((xs ++ cz.map fun c => (false, [c])).map fun y => Arg.val y.1 y.2) { vals := [(b, cr)] }) (oneCall_ok hK) rfl (fun k hk => by cases hk; exact Nat.le_of_ble_eq_true hd) ?_ (updT_cons _ _ _) (updB_0 bo) h
 simp only [effOf]
 unfold effCall effCall0
 simp only [hcal, List.isEmpty_cons, Bool.not_false, Bool.or_true, ha, hz]
 rw [if_pos hbod]
 unfold effVal
 have h5 : oneCall g ((xs ++ cz.map fun c => (false, [c])).map fun y => Arg.val y.1 y.2) { vals := [(b, cr)] } g ((xs ++ cz.map fun c => (false, [c])).map fun x => Arg.val x.1 x.2) [] = some { vals := [(b, cr)] } := by
  unfold oneCall; simp
 have hk : renK (keyAt i nx) [] 0 = fun q => q := by funext q; rfl
 simp only [resOk, Bool.and_eq_true, Bool.or_eq_true, Bool.not_eq_true', List.isEmpty_iff] at hr
 have hsc : ARes.scalars { vals := [(b, cr)] } = true := by
  have := hr.2.resolve_left (by decide)
  simp only [ARes.scalars, List.isEmpty_nil, Bool.true_and]; exact this
 simp only [h5]
 rw [if_pos ⟨rfl, by simp, .inr hsc, hcl, rfl, rfl⟩]
 simp only [hk, resAV_vals, takeBx, List.nil_append, shut, List.filter_nil, List.filterMap_nil]
 rfl
end
end Go.Proofs.YtgehafnodibhpaaGreatDoor

