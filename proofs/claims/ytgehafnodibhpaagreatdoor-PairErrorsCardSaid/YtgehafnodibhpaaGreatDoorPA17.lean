/- Rules of runs and contracts of functions, for the claims of one seat. -/
import Derived.Test.YtgehafnodibhpaaGreatDoorPA13
import Derived.Test.YtgehafnodibhpaaGreatDoorPA16
namespace Go.Proofs.YtgehafnodibhpaaGreatDoor
open Go Go.RowKit
set_option linter.unusedVariables false
set_option linter.unusedSimpArgs false
def befE (a b : EdgeD) : Bool := decide (a.frm < b.frm ∨ a.frm = b.frm ∧ (a.send = false ∧ b.send = true ∨ a.send = b.send ∧ a.label < b.label))
def edgeOk (S : Int) (e : EdgeD) : Bool := decide (0 ≤ e.frm ∧ e.frm < S ∧ 0 ≤ e.to ∧ e.to < S ∧ 1 ≤ e.label ∧ e.label ≤ 1000)
def edgeAt (S : Int) (l : List EdgeD) (i : Nat) : Bool := edgeOk S (l.getD i nilEd) && (decide (i = 0) || befE (l.getD (i - 1) nilEd) (l.getD i nilEd))
def edgesOk (S : Int) (l : List EdgeD) : Bool := (List.range l.length).all (edgeAt S l)
def autErr (a : AutD) : Int := if 12 < a.states ∨ 100 < a.edges.length then 3 else if ¬ (0 ≤ a.start ∧ a.start < a.states) then 1 else if edgesOk a.states a.edges then 0 else 1
theorem edgesOk_no {S : Int} {l : List EdgeD} {i : Nat} (hi : i < l.length) (h : edgeAt S l i = false) : edgesOk S l = false := by
 unfold edgesOk
 rw [List.all_eq_false]
 exact ⟨i, List.mem_range.2 hi, by rw [h]; simp⟩
theorem edgesOk_yes {S : Int} {l : List EdgeD} (h : ∀ i, i < l.length → edgeAt S l i = true) : edgesOk S l = true := by
 unfold edgesOk
 rw [List.all_eq_true]
 exact fun i hi => h i (List.mem_range.1 hi)
theorem edgesOk_at {S : Int} {l : List EdgeD} (h : edgesOk S l = true) {i : Nat} (hi : i < l.length) : edgeOk S (l.getD i nilEd) = true := by
 unfold edgesOk at h
 rw [List.all_eq_true] at h
 have := h i (List.mem_range.2 hi)
 unfold edgeAt at this
 rw [Bool.and_eq_true] at this
 exact this.1
structure AutIn (a : AutD) : Prop where
 start : 0 ≤ a.start ∧ a.start < a.states
 most : a.states ≤ 12
 few : a.edges.length ≤ 100
 edges : ∀ i, i < a.edges.length → edgeOk a.states (a.edges.getD i nilEd) = true
theorem autIn_of {a : AutD} (h : autErr a = 0) : AutIn a := by
 unfold autErr at h
 split at h
 ·omega
 ·rename_i h1
  split at h
  ·omega
  ·rename_i h2
   split at h
   ·rename_i h3
    exact ⟨by omega, by omega, by omega, fun i hi => edgesOk_at h3 hi⟩
   ·omega
def stepE (x : Int) (o : List Int) (e : EdgeD) : List Int := if e.frm = x ∧ e.to ∉ o then o ++ [e.to] else o
def scanE (es : List EdgeD) (x : Int) (o : List Int) : List Int := es.foldl (stepE x) o
def ordF (es : List EdgeD) : Nat → Nat → List Int → List Int
 | 0, _, o => o
 | f + 1, i, o => if i < o.length then ordF es f (i + 1) (scanE es (o.getD i 0) o) else o
def ordP (a : AutD) : List Int := ordF a.edges a.states.toNat 0 [a.start]
structure OrdIn (S : Int) (o : List Int) : Prop where
 nd : o.Nodup
 rng : ∀ x ∈ o, 0 ≤ x ∧ x < S
theorem nodup_len : ∀ (S : Nat) (l : List Nat), l.Nodup → (∀ x ∈ l, x < S) → l.length ≤ S
 | 0, l, _, h => by
  cases l with
  | nil => simp
  | cons x r => exact absurd (h x (List.mem_cons_self ..)) (Nat.not_lt_zero x)
 | S + 1, l, hn, h => by
  have h1 : ∀ x ∈ l.erase S, x < S := fun x hx => by
   have h2 := (List.Nodup.mem_erase_iff hn).1 hx
   have := h x h2.2
   omega
  have h2 := nodup_len S (l.erase S) (hn.erase S) h1
  rw [List.length_erase] at h2
  split at h2 <;> omega
theorem OrdIn.len {S : Int} {o : List Int} (h : OrdIn S o) : (o.length : Int) ≤ max S 0 := by
 have h1 := nodup_len S.toNat (o.map Int.toNat) (by
  refine List.pairwise_map.2 (h.nd.imp_of_mem ?_)
  intro a b ha hb hne he
  have h1 := h.rng a ha
  have h2 := h.rng b hb
  exact hne (by omega)) (fun x hx => by
  obtain ⟨y, hy, rfl⟩ := List.mem_map.1 hx
  have := h.rng y hy
  omega)
 rw [List.length_map] at h1
 omega
theorem OrdIn.step {S : Int} {o : List Int} (h : OrdIn S o) {x : Int} {e : EdgeD} (he : edgeOk S e = true) : OrdIn S (stepE x o e) := by
 have he' := of_decide_eq_true he
 unfold stepE
 split
 ·rename_i g
  refine ⟨?_, fun y hy => ?_⟩
  ·refine List.nodup_append.2 ⟨h.nd, by simp, fun a ha b hb hab => ?_⟩
   have e1 := List.mem_singleton.1 hb
   subst e1
   subst hab
   exact g.2 ha
  ·rcases List.mem_append.1 hy with hy | hy
   ·exact h.rng y hy
   ·have e1 := List.mem_singleton.1 hy
    subst e1
    omega
 ·exact h
theorem stepE_pre {x : Int} {o : List Int} {e : EdgeD} : ∃ r, stepE x o e = o ++ r := by
 unfold stepE
 split
 ·exact ⟨_, rfl⟩
 ·exact ⟨[], by simp⟩
def scanN (es : List EdgeD) (x : Int) (o : List Int) (k : Nat) : List Int := (es.take k).foldl (stepE x) o
theorem scanN_next {es : List EdgeD} {x : Int} {o : List Int} {k : Nat} (h : k < es.length) : scanN es x o (k + 1) = stepE x (scanN es x o k) (es.getD k nilEd) := by
 unfold scanN
 rw [List.take_add_one, List.foldl_append]
 simp [List.getD, h]
theorem scanN_all {es : List EdgeD} {x : Int} {o : List Int} : scanN es x o es.length = scanE es x o := by
 unfold scanN scanE; rw [List.take_length]
theorem scanN_pre {es : List EdgeD} {x : Int} {o : List Int} : ∀ k, k ≤ es.length → ∃ r, scanN es x o k = o ++ r
 | 0, _ => ⟨[], by simp [scanN]⟩
 | k + 1, h => by
  obtain ⟨r, hr⟩ := scanN_pre (es := es) (x := x) (o := o) k (by omega)
  obtain ⟨s, hs⟩ := stepE_pre (x := x) (o := scanN es x o k) (e := es.getD k nilEd)
  exact ⟨r ++ s, by rw [scanN_next (by omega), hs, hr, List.append_assoc]⟩
theorem scanN_get {es : List EdgeD} {x : Int} {o : List Int} {k i : Nat} (h : k ≤ es.length) (hi : i < o.length) : i < (scanN es x o k).length ∧ (scanN es x o k).getD i 0 = o.getD i 0 := by
 obtain ⟨r, hr⟩ := scanN_pre (x := x) (o := o) k h
 rw [hr]
 refine ⟨by rw [List.length_append]; omega, ?_⟩
 simp only [List.getD_eq_getElem?_getD]
 rw [List.getElem?_append_left hi]
theorem OrdIn.scan {S : Int} {es : List EdgeD} (he : ∀ i, i < es.length → edgeOk S (es.getD i nilEd) = true) {x : Int} {o : List Int} (h : OrdIn S o) : ∀ k, k ≤ es.length → OrdIn S (scanN es x o k)
 | 0, _ => h
 | k + 1, hk => by
  rw [scanN_next (by omega)]
  exact (OrdIn.scan he h k (by omega)).step (he k (by omega))
theorem ordF_next {a : AutD} {i : Nat} {o : List Int} (hs : AutIn a) (ho : OrdIn a.states o) (hi : i < o.length) : ordF a.edges (a.states.toNat - i) i o = ordF a.edges (a.states.toNat - (i + 1)) (i + 1) (scanE a.edges (o.getD i 0) o) := by
 have := ho.len
 have h1 := hs.start
 have e : a.states.toNat - i = a.states.toNat - (i + 1) + 1 := by omega
 rw [e]
 conv => lhs; unfold ordF
 rw [if_pos hi]
theorem ordF_end {es : List EdgeD} {f i : Nat} {o : List Int} (hi : ¬ i < o.length) : ordF es f i o = o := by
 cases f with
 | zero => rfl
 | succ f => unfold ordF; rw [if_neg hi]
theorem ord_first {a : AutD} (hs : AutIn a) : OrdIn a.states [a.start] := ⟨by simp, fun x hx => by have := List.mem_singleton.1 hx; subst this; exact hs.start⟩
theorem ordF_in {a : AutD} (hs : AutIn a) : ∀ (f i : Nat) (o : List Int), OrdIn a.states o → OrdIn a.states (ordF a.edges f i o)
 | 0, _, _, h => h
 | f + 1, i, o, h => by
  unfold ordF
  split
  ·exact ordF_in hs f _ _ (by rw [← scanN_all]; exact h.scan hs.edges _ (Nat.le_refl _))
  ·exact h
theorem ordP_in {a : AutD} (hs : AutIn a) : OrdIn a.states (ordP a) := ordF_in hs _ _ _ (ord_first hs)
def posI (o : List Int) (x : Int) : Int := if x ∈ o then ((o.idxOf x : Nat) : Int) else -1
theorem posI_neg {o : List Int} {x : Int} : posI o x < 0 ↔ x ∉ o := by
 unfold posI
 split <;> rename_i h
 ·simp [h]
 ·simp [h]
theorem posI_new {o : List Int} {x y : Int} (hx : x ∉ o) : posI (o ++ [x]) y = if y = x then (o.length : Int) else posI o y := by
 unfold posI
 by_cases e : y = x
 ·subst e
  rw [if_pos (by simp), if_pos rfl, List.idxOf_append, if_neg hx]
  simp
 ·rw [if_neg e]
  by_cases hy : y ∈ o
  ·rw [if_pos (by simp [hy]), if_pos hy, List.idxOf_append, if_pos hy]
  ·rw [if_neg (by simp [hy, e]), if_neg hy]
def placeOf (S : Int) (o : List Int) : List Int := (List.range S.toNat).map fun (x : Nat) => posI o (x : Int)
theorem placeOf_len {S : Int} {o : List Int} : (placeOf S o).length = S.toNat := by simp [placeOf]
theorem placeOf_get {S : Int} {o : List Int} {x : Int} (h : 0 ≤ x ∧ x < S) : (placeOf S o).getD x.toNat 0 = posI o x := by
 unfold placeOf
 have h1 : x.toNat < S.toNat := by omega
 simp [List.getD, h1, show max x 0 = x by omega]
theorem placeOf_at {S : Int} {o : List Int} {j : Nat} (h : j < S.toNat) : (placeOf S o)[j]? = some (posI o (j : Int)) := by
 unfold placeOf
 rw [List.getElem?_map, List.getElem?_range h]; rfl
theorem placeOf_set {S : Int} {o : List Int} {x : Int} (h : 0 ≤ x ∧ x < S) (hx : x ∉ o) : (placeOf S o).set x.toNat (o.length : Int) = placeOf S (o ++ [x]) := by
 refine List.ext_getElem? fun j => ?_
 rw [List.getElem?_set, placeOf_len]
 by_cases hj : j < S.toNat
 ·rw [placeOf_at hj, placeOf_at hj, posI_new hx]
  by_cases e : x.toNat = j
  ·rw [if_pos e, if_pos (by omega), if_pos (by omega)]
  ·rw [if_neg e, if_neg (by omega)]
 ·rw [if_neg (by omega), List.getElem?_eq_none (by rw [placeOf_len]; omega), List.getElem?_eq_none (by rw [placeOf_len]; omega)]
theorem placeOf_nil {S : Int} : placeOf S [] = List.replicate S.toNat (-1) := by
 unfold placeOf
 refine List.ext_getElem (by simp) fun j h1 h2 => ?_
 simp [posI]
def trimN (es : List EdgeD) (o : List Int) (k : Nat) : List EdgeD := ((es.take k).filter fun e => decide (e.frm ∈ o)).map fun e => ⟨posI o e.frm, e.send, e.label, posI o e.to⟩
theorem trimN_len {es : List EdgeD} {o : List Int} {k : Nat} : (trimN es o k).length ≤ k := by
 unfold trimN
 rw [List.length_map]
 exact Nat.le_trans (List.length_filter_le _ _) (List.length_take_le _ _)
theorem trimN_yes {es : List EdgeD} {o : List Int} {k : Nat} (h : k < es.length) (hm : (es.getD k nilEd).frm ∈ o) : trimN es o (k + 1) = trimN es o k ++ [⟨posI o (es.getD k nilEd).frm, (es.getD k nilEd).send, (es.getD k nilEd).label, posI o (es.getD k nilEd).to⟩] := by
 unfold trimN
 have e : es.take (k + 1) = es.take k ++ [es.getD k nilEd] := by
  rw [List.take_add_one]; simp [List.getD, h]
 rw [e, List.filter_append, List.map_append]
 simp only [List.filter_cons, hm, decide_true, if_true, List.filter_nil, List.map_cons, List.map_nil]
theorem trimN_no {es : List EdgeD} {o : List Int} {k : Nat} (h : k < es.length) (hm : (es.getD k nilEd).frm ∉ o) : trimN es o (k + 1) = trimN es o k := by
 unfold trimN
 have e : es.take (k + 1) = es.take k ++ [es.getD k nilEd] := by
  rw [List.take_add_one]; simp [List.getD, h]
 rw [e, List.filter_append, List.map_append]
 simp only [List.filter_cons, hm, decide_false, Bool.false_eq_true, if_false, List.filter_nil, List.map_nil, List.append_nil]
def swapE (l : List EdgeD) (k : Nat) : List EdgeD := (l.set (k + 1) (l.getD k nilEd)).set k (l.getD (k + 1) nilEd)
def bubE : Nat → List EdgeD → List EdgeD
 | 0, l => l
 | k + 1, l => if befE (l.getD (k + 1) nilEd) (l.getD k nilEd) = true then bubE k (swapE l k) else l
def sortN (es : List EdgeD) : Nat → List EdgeD
 | 0 => []
 | i + 1 => bubE i (sortN es i ++ [es.getD i nilEd])
theorem swapE_len {l : List EdgeD} {k : Nat} : (swapE l k).length = l.length := by simp [swapE]
theorem bubE_len : ∀ {k : Nat} {l : List EdgeD}, (bubE k l).length = l.length
 | 0, _ => rfl
 | k + 1, l => by
  unfold bubE
  split
  ·rw [bubE_len, swapE_len]
  ·rfl
theorem sortN_len {es : List EdgeD} : ∀ {i : Nat}, (sortN es i).length = i
 | 0 => rfl
 | i + 1 => by
  unfold sortN
  rw [bubE_len, List.length_append, sortN_len]; rfl
end Go.Proofs.YtgehafnodibhpaaGreatDoor

namespace Go.Proofs.YtgehafnodibhpaaGreatDoor
open Go Go.RowKit
set_option linter.unusedVariables false
set_option linter.unusedSimpArgs false
def msgAt (l : List MsgD) (id : Int) : Option Nat := l.findIdx? fun x => decide (x.id = id)
def msgQ (l : List MsgD) : List (Int × ByteArray) := l.map fun x => (x.id, x.name)
def sesErr (n : Nat) (x : SesD) : Int :=
 if 16 < x.msgs.length then 3
 else if idsP 0 [] (msgQ x.msgs) = false ∨ isNameP x.name = false then 1
 else if x.msgs.any (fun m => outT n m.typ) = true then 4
 else if ¬ autErr x.auto = 0 then autErr x.auto
 else if x.auto.edges.any (fun e => (msgAt x.msgs e.label).isNone) = true then 4
 else if ((ordP x.auto).length : Int) = x.auto.states then 0 else 1
def soundErr (l : List TypD) : Int :=
 if ¬ schemaErr l = 0 then schemaErr l else if ¬ defErr l = 0 then 1 else if soundB (countsA countR l) = true then 0 else 10
def dupF (f : Nat → ByteArray) (i : Nat) : Bool := (List.range i).any fun k => decide (f k = f i)
theorem dupF_yes {f : Nat → ByteArray} {i k : Nat} (hk : k < i) (h : f k = f i) : dupF f i = true := by
 unfold dupF
 rw [List.any_eq_true]
 exact ⟨k, List.mem_range.2 hk, decide_eq_true h⟩
theorem dupF_no {f : Nat → ByteArray} {i : Nat} (h : ∀ k, k < i → ¬ f k = f i) : dupF f i = false := by
 unfold dupF
 rw [List.any_eq_false]
 intro k hk
 simpa using h k (List.mem_range.1 hk)
def callErr (n : Nat) (l : List CallD) (i : Nat) : Int :=
 if isNameP (l.getD i nilCa).name = false then 1
 else if dupF (fun k => (l.getD k nilCa).name) i = true then 5
 else if outT n (l.getD i nilCa).req = true ∨ outT n (l.getD i nilCa).rep = true then 4 else 0
def topErr (n : Nat) (l : List TopD) (i : Nat) : Int :=
 if isNameP (l.getD i nilTo).name = false then 1
 else if dupF (fun k => (l.getD k nilTo).name) i = true then 5
 else if outT n (l.getD i nilTo).typ = true then 4 else 0
def sessErr (n : Nat) (l : List SesD) (i : Nat) : Int :=
 if dupF (fun k => (l.getD k nilSe).name) i = true then 5
 else sesErr n (l.getD i nilSe)
section
variable {n : Nat} {i k : Nat}
theorem call_1 {l : List CallD} (h : isNameP (l.getD i nilCa).name = false) : callErr n l i = 1 := by unfold callErr; rw [if_pos h]
theorem call_5 {l : List CallD} (h : isNameP (l.getD i nilCa).name = true) (hk : k < i) (he : (l.getD k nilCa).name = (l.getD i nilCa).name) : callErr n l i = 5 := by
 unfold callErr; rw [if_neg (by rw [h]; decide), if_pos (dupF_yes (f := fun k => (l.getD k nilCa).name) hk he)]
theorem call_go {l : List CallD} (h : isNameP (l.getD i nilCa).name = true) (hd : ∀ k, k < i → ¬ (l.getD k nilCa).name = (l.getD i nilCa).name) : callErr n l i = if outT n (l.getD i nilCa).req = true ∨ outT n (l.getD i nilCa).rep = true then 4 else 0 := by
 unfold callErr; rw [if_neg (by rw [h]; decide), if_neg (by rw [dupF_no (f := fun k => (l.getD k nilCa).name) hd]; decide)]
theorem top_1 {l : List TopD} (h : isNameP (l.getD i nilTo).name = false) : topErr n l i = 1 := by unfold topErr; rw [if_pos h]
theorem top_5 {l : List TopD} (h : isNameP (l.getD i nilTo).name = true) (hk : k < i) (he : (l.getD k nilTo).name = (l.getD i nilTo).name) : topErr n l i = 5 := by
 unfold topErr; rw [if_neg (by rw [h]; decide), if_pos (dupF_yes (f := fun k => (l.getD k nilTo).name) hk he)]
theorem top_go {l : List TopD} (h : isNameP (l.getD i nilTo).name = true) (hd : ∀ k, k < i → ¬ (l.getD k nilTo).name = (l.getD i nilTo).name) : topErr n l i = if outT n (l.getD i nilTo).typ = true then 4 else 0 := by
 unfold topErr; rw [if_neg (by rw [h]; decide), if_neg (by rw [dupF_no (f := fun k => (l.getD k nilTo).name) hd]; decide)]
theorem sess_5 {l : List SesD} (hk : k < i) (he : (l.getD k nilSe).name = (l.getD i nilSe).name) : sessErr n l i = 5 := by
 unfold sessErr; rw [if_pos (dupF_yes (f := fun k => (l.getD k nilSe).name) hk he)]
theorem sess_go {l : List SesD} (hd : ∀ k, k < i → ¬ (l.getD k nilSe).name = (l.getD i nilSe).name) : sessErr n l i = sesErr n (l.getD i nilSe) := by
 unfold sessErr; rw [if_neg (by rw [dupF_no (f := fun k => (l.getD k nilSe).name) hd]; decide)]
end
def verErr (v : VerD) : Int :=
 if 8 < v.calls.length ∨ 8 < v.sess.length ∨ 8 < v.tops.length then 3
 else if isNameP v.name = false then 1
 else if ¬ soundErr v.types = 0 then soundErr v.types
 else if ¬ firstE (callErr v.types.length v.calls) v.calls.length = 0 then firstE (callErr v.types.length v.calls) v.calls.length
 else if ¬ firstE (sessErr v.types.length v.sess) v.sess.length = 0 then firstE (sessErr v.types.length v.sess) v.sess.length
 else firstE (topErr v.types.length v.tops) v.tops.length
end Go.Proofs.YtgehafnodibhpaaGreatDoor

