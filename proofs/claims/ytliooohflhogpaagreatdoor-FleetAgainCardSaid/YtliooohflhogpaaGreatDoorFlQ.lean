/-
  Problems of some services: the plain functions.
-/
import Derived.Test.YtliooohflhogpaaGreatDoorFlB
namespace Go.Proofs.YtliooohflhogpaaGreatDoor
open Go Go.RowKit
set_option linter.unusedSimpArgs false
set_option linter.unusedVariables false
/-- Where a number stands first, or -1. -/
def idxF : List Int → Nat → Int → Int
  | [], _, _ => -1
  | y :: ys, i, x => if x = y then (i : Int) else idxF ys (i + 1) x
def idx (s : List Int) (x : Int) : Int := idxF s 0 x
def missTo (s : List Int) (x : Int) (k : Nat) : Prop := ∀ j (hj : j < s.length), j < k → ¬ x = s[j]
theorem missTo_zero {s : List Int} {x : Int} : missTo s x 0 := fun j _ h => absurd h (by omega)
theorem missTo_succ {s : List Int} {x : Int} {k : Nat} (h : missTo s x k) (hk : ∀ hx : k < s.length, ¬ x = s[k]) : missTo s x (k + 1) := fun j hx hj => by
  by_cases e : j = k
  · subst e; exact hk hx
  · exact h j hx (by omega)
theorem idxF_hit : ∀ {s : List Int} {i : Nat} {x : Int} {k : Nat} (hk : k < s.length), missTo s x k → x = s[k] → idxF s i x = ((i + k : Nat) : Int)
  | y :: ys, i, x, 0, _, _, h => by
    unfold idxF
    rw [if_pos (by simpa using h)]
    rfl
  | y :: ys, i, x, k + 1, hk, hm, h => by
    unfold idxF
    rw [if_neg (show ¬ x = y from hm 0 (by simp) (by omega)), idxF_hit (k := k) (by simpa using hk) (fun j hj hjk => hm (j + 1) (by simpa using hj) (by omega)) (show x = ys[k]'(by simpa using hk) from h)]
    congr 1
    omega
theorem idxF_miss : ∀ {s : List Int} {i : Nat} {x : Int}, missTo s x s.length → idxF s i x = -1
  | [], _, _, _ => rfl
  | y :: ys, i, x, hm => by
    unfold idxF
    rw [if_neg (show ¬ x = y from hm 0 (by simp) (by simp)), idxF_miss (fun j hj hjk => hm (j + 1) (by simpa using hj) (by simp; omega))]
theorem idx_hit {s : List Int} {x : Int} {k : Nat} (hk : k < s.length) (hm : missTo s x k) (h : x = s[k]) : idx s x = (k : Int) := by
  have := idxF_hit (i := 0) hk hm h
  simpa [idx] using this
theorem idx_miss {s : List Int} {x : Int} (hm : missTo s x s.length) : idx s x = -1 := idxF_miss hm
/-- The first k numbers ascend; they are services. -/
def ascTo (s : List Int) (k : Nat) : Prop := ∀ j (h : j + 1 < s.length), j + 1 < k → s[j] < s[j + 1]
def inTo (n : Nat) (s : List Int) (k : Nat) : Prop := ∀ j (h : j < s.length), j < k → 0 ≤ s[j] ∧ s[j] < n
theorem ascTo_one {s : List Int} {k : Nat} (h : k ≤ 1) : ascTo s k := fun j _ hj => absurd hj (by omega)
theorem ascTo_succ {s : List Int} {k : Nat} (h : ascTo s (k + 1)) (hk : ∀ hx : k + 1 < s.length, s[k] < s[k + 1]) : ascTo s (k + 2) := fun j hx hj => by
  by_cases e : j = k
  · subst e; exact hk hx
  · exact h j hx (by omega)
theorem inTo_zero {n : Nat} {s : List Int} : inTo n s 0 := fun j _ h => absurd h (by omega)
theorem inTo_succ {n : Nat} {s : List Int} {k : Nat} (h : inTo n s k) (hk : ∀ hx : k < s.length, 0 ≤ s[k] ∧ s[k] < n) : inTo n s (k + 1) := fun j hx hj => by
  by_cases e : j = k
  · subst e; exact hk hx
  · exact h j hx (by omega)
def pick (xs s : List Int) : List Int := s.map fun k => xs.getD k.toNat 0
theorem pick_take {xs s : List Int} {k : Nat} (h : k < s.length) : dInts (pick xs (s.take (k + 1))) = dInts (pick xs (s.take k)) ++ [[.v (.int .i64 (xs.getD (s[k]).toNat 0))]] := by
  rw [List.take_add_one, List.getElem?_eq_getElem h]; simp only [dInts, pick, Option.toList_some, List.map_append, List.map_cons, List.map_nil]
theorem dInts_get {xs : List Int} {x : Int} (h0 : 0 ≤ x) (h1 : x < xs.length) : (dInts xs)[x.toNat]? = some [.v (.int .i64 (xs.getD x.toNat 0))] := by
  have h : x.toNat < xs.length := by omega
  simp [dInts, h, List.getD_eq_getElem?_getD]
def pickTab (s : List Int) (t : Tab) : Option Tab := if 0 ≤ idx s t.frm ∧ 0 ≤ idx s t.tto then some { t with frm := idx s t.frm, tto := idx s t.tto } else none
def rsTabs (s : List Int) (ts : List Tab) : List Tab := ts.filterMap (pickTab s)
theorem rsTabs_yes {s : List Int} {ts : List Tab} {k : Nat} (h : k < ts.length) (ha : 0 ≤ idx s (ts[k]).frm) (hb : 0 ≤ idx s (ts[k]).tto) : rsTabs s (ts.take (k + 1)) = rsTabs s (ts.take k) ++ [{ ts[k] with frm := idx s (ts[k]).frm, tto := idx s (ts[k]).tto }] := by
  rw [List.take_add_one, List.getElem?_eq_getElem h]
  simp only [rsTabs, List.filterMap_append, Option.toList_some, List.filterMap_cons, List.filterMap_nil, pickTab]
  rw [if_pos ⟨ha, hb⟩]
theorem rsTabs_no {s : List Int} {ts : List Tab} {k : Nat} (h : k < ts.length) (ha : ¬ (0 ≤ idx s (ts[k]).frm ∧ 0 ≤ idx s (ts[k]).tto)) : rsTabs s (ts.take (k + 1)) = rsTabs s (ts.take k) := by
  rw [List.take_add_one, List.getElem?_eq_getElem h]
  simp only [rsTabs, List.filterMap_append, Option.toList_some, List.filterMap_cons, List.filterMap_nil, pickTab]
  rw [if_neg ha]
  simp
theorem rsTabs_len (s : List Int) (ts : List Tab) : (rsTabs s ts).length ≤ ts.length := List.length_filterMap_le _ _
theorem dTabs_app (xs : List Tab) (t : Tab) : dTabs (xs ++ [t]) = dTabs xs ++ [tabRow t] := by simp [dTabs]
open Classical in
noncomputable def rstr (p : Prob) (s : List Int) : Prob × Int :=
  if vpErr p = 0 then (if ascTo s s.length then (if inTo p.vs.length s s.length then (⟨pick p.vs s, pick p.now s, pick p.tgt s, rsTabs s p.tabs⟩, 0) else (nilP, 4)) else (nilP, 1)) else (nilP, vpErr p)
theorem rstr_vp {p : Prob} {s : List Int} (h : ¬ vpErr p = 0) : rstr p s = (nilP, vpErr p) := by unfold rstr; rw [if_neg h]
theorem rstr_asc {p : Prob} {s : List Int} (h : vpErr p = 0) (ha : ¬ ascTo s s.length) : rstr p s = (nilP, 1) := by unfold rstr; rw [if_pos h, if_neg ha]
theorem rstr_in {p : Prob} {s : List Int} (h : vpErr p = 0) (ha : ascTo s s.length) (hi : ¬ inTo p.vs.length s s.length) : rstr p s = (nilP, 4) := by unfold rstr; rw [if_pos h, if_pos ha, if_neg hi]
theorem rstr_ok {p : Prob} {s : List Int} (h : vpErr p = 0) (ha : ascTo s s.length) (hi : inTo p.vs.length s s.length) : rstr p s = (⟨pick p.vs s, pick p.now s, pick p.tgt s, rsTabs s p.tabs⟩, 0) := by unfold rstr; rw [if_pos h, if_pos ha, if_pos hi]
/-- A problem without error has as many versions now and then as services. -/
theorem vp_len {p : Prob} (h : vpErr p = 0) : p.now.length = p.vs.length ∧ p.tgt.length = p.vs.length := by
  unfold vpErr at h
  split at h
  · cases h
  · split at h
    · cases h
    · rename_i h2
      exact ⟨by omega, by omega⟩
theorem rsTabs_lt {s : List Int} {ts : List Tab} (h : ∀ t ∈ ts, tabLt t) : ∀ t ∈ rsTabs s ts, tabLt t := fun t ht => by
  obtain ⟨u, hu, hp⟩ := List.mem_filterMap.1 ht
  unfold pickTab at hp
  split at hp
  · cases hp; exact h u hu
  · cases hp
theorem rstr_lt {p : Prob} {s : List Int} (h : probLt p) (hs : s.length ≤ 10) : probLt (rstr p s).1 := by
  unfold rstr
  split
  · split
    · split
      · exact ⟨by simpa [pick] using hs, by simpa [pick] using hs, by simpa [pick] using hs, Nat.le_trans (rsTabs_len _ _) h.2.2.2.1, rsTabs_lt h.2.2.2.2⟩
      · exact nilP_lt
    · exact nilP_lt
  · exact nilP_lt
end Go.Proofs.YtliooohflhogpaaGreatDoor
