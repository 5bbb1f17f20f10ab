/-
  Lists of services chosen by two tests: the plain law of FleetAgain.
-/
import Derived.Test.YtliooohflhogpaaGreatDoorFlOP
namespace Go.Proofs.YtliooohflhogpaaGreatDoor
open Go Go.RowKit
set_option linter.unusedSimpArgs false
set_option linter.unusedVariables false
def selR (f : Nat → Bool) : Nat → List Int
  | 0 => []
  | n + 1 => if f n = true then selR f n ++ [(n : Int)] else selR f n
def secR (f g : Nat → Bool) : Nat → List Int
  | 0 => []
  | n + 1 => if (f n && g n) = true then secR f g n ++ [((selR f n).length : Int)] else secR f g n
theorem selR_yes {f : Nat → Bool} {n : Nat} (h : f n = true) : selR f (n + 1) = selR f n ++ [(n : Int)] := by simp only [selR]; rw [if_pos h]
theorem selR_no {f : Nat → Bool} {n : Nat} (h : f n = false) : selR f (n + 1) = selR f n := by simp only [selR]; rw [if_neg (by simp [h])]
theorem secR_yes {f g : Nat → Bool} {n : Nat} (h : f n = true) (k : g n = true) : secR f g (n + 1) = secR f g n ++ [((selR f n).length : Int)] := by simp only [secR]; rw [if_pos (by simp [h, k])]
theorem secR_no {f g : Nat → Bool} {n : Nat} (h : (f n && g n) = false) : secR f g (n + 1) = secR f g n := by simp only [secR]; rw [if_neg (by simp [h])]
theorem selR_mem {f : Nat → Bool} : ∀ {n : Nat} {x : Int}, x ∈ selR f n → 0 ≤ x ∧ x < n
  | 0, x, h => by simp [selR] at h
  | n + 1, x, h => by
    cases hf : f n with
    | true =>
      rw [selR_yes hf, List.mem_append] at h
      rcases h with h | h
      · have := selR_mem h; omega
      · simp at h; omega
    | false =>
      rw [selR_no hf] at h
      have := selR_mem h; omega
theorem selR_len (f : Nat → Bool) : ∀ n, (selR f n).length ≤ n
  | 0 => by simp [selR]
  | n + 1 => by
    have := selR_len f n
    cases hf : f n with
    | true => rw [selR_yes hf]; simp; omega
    | false => rw [selR_no hf]; omega
theorem secR_mem {f g : Nat → Bool} : ∀ {n : Nat} {x : Int}, x ∈ secR f g n → 0 ≤ x ∧ x < (selR f n).length
  | 0, x, h => by simp [secR] at h
  | n + 1, x, h => by
    have up : (selR f n).length ≤ (selR f (n + 1)).length := by
      cases hf : f n with
      | true => rw [selR_yes hf]; simp
      | false => rw [selR_no hf]; omega
    cases hf : f n && g n with
    | true =>
      simp only [Bool.and_eq_true] at hf
      rw [secR_yes hf.1 hf.2, List.mem_append] at h
      rcases h with h | h
      · have := secR_mem h; omega
      · simp at h
        have e : (selR f (n + 1)).length = (selR f n).length + 1 := by rw [selR_yes hf.1]; simp
        omega
    | false =>
      rw [secR_no hf] at h
      have := secR_mem h; omega
theorem secR_len (f g : Nat → Bool) : ∀ n, (secR f g n).length ≤ n
  | 0 => by simp [secR]
  | n + 1 => by
    have := secR_len f g n
    cases hf : f n && g n with
    | true =>
      simp only [Bool.and_eq_true] at hf
      rw [secR_yes hf.1 hf.2]; simp; omega
    | false => rw [secR_no hf]; omega
theorem asc_app {s : List Int} {y : Int} (h : ascTo s s.length) (hy : ∀ x ∈ s, x < y) : ascTo (s ++ [y]) (s ++ [y]).length := by
  intro j hj _
  have hl : j + 1 < s.length + 1 := by simpa using hj
  by_cases e : j + 1 < s.length
  · rw [List.getElem_append_left (by omega), List.getElem_append_left e]
    exact h j e e
  · rw [List.getElem_append_left (by omega), List.getElem_append_right (by omega)]
    simpa using hy _ (List.getElem_mem (show j < s.length by omega))
theorem selR_asc (f : Nat → Bool) : ∀ n, ascTo (selR f n) (selR f n).length
  | 0 => fun j hj _ => by simp [selR] at hj
  | n + 1 => by
    cases hf : f n with
    | true => rw [selR_yes hf]; exact asc_app (selR_asc f n) fun x hx => (selR_mem hx).2
    | false => rw [selR_no hf]; exact selR_asc f n
theorem secR_asc (f g : Nat → Bool) : ∀ n, ascTo (secR f g n) (secR f g n).length
  | 0 => fun j hj _ => by simp [secR] at hj
  | n + 1 => by
    cases hf : f n && g n with
    | true =>
      simp only [Bool.and_eq_true] at hf
      rw [secR_yes hf.1 hf.2]
      exact asc_app (secR_asc f g n) fun x hx => (secR_mem hx).2
    | false => rw [secR_no hf]; exact secR_asc f g n
theorem in_of_mem {n : Nat} {s : List Int} (h : ∀ x ∈ s, 0 ≤ x ∧ x < n) : inTo n s s.length := fun j hj _ => h _ (List.getElem_mem hj)
theorem selR_sel (f : Nat → Bool) (n : Nat) : Sel n (selR f n) := ⟨selR_asc f n, in_of_mem fun x hx => selR_mem hx⟩
theorem secR_sel (f g : Nat → Bool) (n : Nat) : Sel (selR f n).length (secR f g n) := ⟨secR_asc f g n, in_of_mem fun x hx => secR_mem hx⟩
theorem selR_true (n : Nat) : selR (fun _ => true) n = allN n := by
  induction n with
  | zero => rfl
  | succ n ih => rw [selR_yes rfl, ih]; simp [allN, List.range_succ]
theorem both_eq (f g : Nat → Bool) : ∀ n, selR (fun i => f i && g i) n = (secR f g n).map fun j => (selR f n).getD j.toNat 0
  | 0 => rfl
  | n + 1 => by
    have keep : ∀ l : List Int, (∀ x ∈ l, 0 ≤ x ∧ x < (selR f n).length) → (l.map fun j => (selR f n ++ [(n : Int)]).getD j.toNat 0) = l.map fun j => (selR f n).getD j.toNat 0 := fun l hl => by
      apply List.map_congr_left
      intro j hj
      have := hl j hj
      rw [List.getD_eq_getElem?_getD, List.getD_eq_getElem?_getD, List.getElem?_append_left (by omega)]
    cases hf : f n with
    | true =>
      cases hg : g n with
      | true =>
        rw [selR_yes (f := fun i => f i && g i) (by simp [hf, hg]), secR_yes hf hg, selR_yes hf, both_eq f g n, List.map_append, keep _ fun x hx => secR_mem hx]
        simp
      | false =>
        rw [selR_no (f := fun i => f i && g i) (by simp [hg]), secR_no (by simp [hg]), selR_yes hf, both_eq f g n, keep _ fun x hx => secR_mem hx]
    | false =>
      rw [selR_no (f := fun i => f i && g i) (by simp [hf]), secR_no (by simp [hf]), selR_no hf, both_eq f g n]
/-- What the statement says of a sound problem. -/
theorem again_rstr {p : Prob} (h : vpErr p = 0) (f g : Nat → Bool) (hl : p.vs.length ≤ 6) :
    rstr p (selR (fun _ => true) p.vs.length) = (p, 0) ∧ (rstr p (selR f p.vs.length)).2 = 0 ∧ (rstr (rstr p (selR f p.vs.length)).1 (secR f g p.vs.length)).2 = 0 ∧ rstr (rstr p (selR f p.vs.length)).1 (secR f g p.vs.length) = rstr p (selR (fun i => f i && g i) p.vs.length) := by
  have hf := selR_sel f p.vs.length
  have hb := selR_sel (fun i => f i && g i) p.vs.length
  have e := rstr_rstr h hf (Nat.le_trans (selR_len f _) hl) (secR_sel f g _) hb (both_eq f g _)
  refine ⟨by rw [selR_true]; exact (rstr_all h).1, by rw [rstr_ok h hf.1 hf.2], ?_, e⟩
  rw [e, rstr_ok h hb.1 hb.2]
theorem bitsP_lt {n m : Nat} (bad : Int) (diag : Bool) (hn : n ≤ 8) (hm : m ≤ 8) : matLt (bitsP n m bad diag) := by
  refine ⟨by simpa [bitsP] using hn, fun r hr => ?_⟩
  obtain ⟨i, _, rfl⟩ := List.mem_map.1 hr
  simpa [rowP] using hm
theorem ofP_lt {d : DraftD} (hd : draftOK d) (ho : ofOK d = true) : probLt (ofP d) := by
  have ho' := ho
  simp only [ofOK, Bool.and_eq_true, decide_eq_true_eq] at ho'
  unfold ofP
  rw [if_pos ho]
  have hv : ∀ i : Nat, (nvs d).getD i 0 ≤ 8 := by
    intro i
    rw [List.getD_eq_getElem?_getD]
    by_cases hi : i < (nvs d).length
    · rw [List.getElem?_eq_getElem hi]
      have hi' : i < d.vs.length := by simpa [nvs] using hi
      have := nP_rng (hd.1 _ (List.getElem_mem hi')).1
      have e : (nvs d)[i] = nP d.vs[i] := by simp [nvs]
      simp only [Option.getD_some, e]
      omega
    · rw [List.getElem?_eq_none (by omega)]; simp
  refine ⟨by simp [nvs]; omega, by simp [modsP]; omega, by simp [modsP]; omega, ?_, ?_⟩
  · simp only; split
    · simp
    · simp; omega
  · intro t ht
    simp only at ht
    split at ht
    · simp at ht
    · obtain ⟨l, hl, rfl⟩ := List.mem_map.1 ht
      have h1 := hv (l.frm.tmod (nvs d).length).toNat
      have h2 := hv (l.tto.tmod (nvs d).length).toNat
      refine ⟨bitsP_lt _ _ (by omega) (by omega), ?_⟩
      simp only [tabP]
      split
      · exact bitsP_lt _ _ (by omega) (by omega)
      · exact ⟨by simp, by simp⟩
end Go.Proofs.YtliooohflhogpaaGreatDoor
