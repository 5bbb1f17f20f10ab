/-
  Problems of drafts: the plain functions, and that they are sound.
-/
import Derived.Test.YtliooohflhogpaaGreatDoorFlA
namespace Go.Proofs.YtliooohflhogpaaGreatDoor
open Go Go.RowKit
set_option linter.unusedSimpArgs false
set_option linter.unusedVariables false
structure LinkD where
  kind : Int
  frm : Int
  tto : Int
  aware : Bool
  bad : Int
  lost : Int
structure DraftD where
  vs : List Int
  now : List Int
  tgt : List Int
  links : List LinkD
def linkRow (l : LinkD) : List D := [.v (.int .u8 l.kind), .v (.int .u8 l.frm), .v (.int .u8 l.tto), .v (.bool l.aware), .v (.int .u16 l.bad), .v (.int .u16 l.lost)]
def dLinks (ls : List LinkD) : List (List D) := ls.map linkRow
def draftC (d : DraftD) : List C := [.d (.sl 1 (dSets d.vs)), .d (.sl 1 (dSets d.now)), .d (.sl 1 (dSets d.tgt)), .d (.sl 6 (dLinks d.links))]
theorem dLinks_len (ls : List LinkD) : (dLinks ls).length = ls.length := by simp [dLinks]
theorem dLinks_at {ls : List LinkD} {k : Nat} (h : k < ls.length) : (dLinks ls)[(k : Int).toNat]? = some (linkRow ls[k]) := by simp [dLinks, h]
/-- Bytes and words. -/
def u8s (xs : List Int) : Prop := ∀ x ∈ xs, 0 ≤ x ∧ x < 256
def linkOK (l : LinkD) : Prop := (0 ≤ l.kind ∧ l.kind < 256) ∧ (0 ≤ l.frm ∧ l.frm < 256) ∧ (0 ≤ l.tto ∧ l.tto < 256) ∧ (0 ≤ l.bad ∧ l.bad < 65536) ∧ (0 ≤ l.lost ∧ l.lost < 65536)
def draftOK (d : DraftD) : Prop := u8s d.vs ∧ u8s d.now ∧ u8s d.tgt ∧ ∀ l ∈ d.links, linkOK l
def nP (x : Int) : Int := 1 + x.tmod 3
theorem nP_rng {x : Int} (h : 0 ≤ x) : 1 ≤ nP x ∧ nP x ≤ 3 := by
  have h1 := Int.tmod_nonneg 3 h
  have h2 := Int.tmod_lt_of_pos x (show (0 : Int) < 3 by omega)
  unfold nP
  omega
def modsP (l vs : List Int) (k : Nat) : List Int := (List.range k).map fun i => (l.getD i 0).tmod (nP (vs.getD i 0))
def entryP (bad : Int) (diag : Bool) (i j : Nat) : Bool := (diag && decide (i = j)) || decide ((bad / 2 ^ (3 * i + j)).tmod 2 = 0)
def rowP (bad : Int) (diag : Bool) (i m : Nat) : List Bool := (List.range m).map fun j => entryP bad diag i j
def bitsP (n m : Nat) (bad : Int) (diag : Bool) : List (List Bool) := (List.range n).map fun i => rowP bad diag i m
def tabP (vs : List Int) (l : LinkD) : Tab :=
  let k := 1 + l.kind.tmod 4
  let f := l.frm.tmod vs.length
  let t := l.tto.tmod vs.length
  { kind := k, frm := f, tto := t, aware := l.aware && !(decide (k = 3) || decide (k = 4)), ok := bitsP (vs.getD f.toNat 0).toNat (vs.getD t.toNat 0).toNat l.bad false, rw := if k = 4 then bitsP (vs.getD f.toNat 0).toNat (vs.getD f.toNat 0).toNat l.lost true else [] }
def nvs (d : DraftD) : List Int := d.vs.map nP
def ofOK (d : DraftD) : Bool := decide (d.vs.length ≤ 3) && decide (d.links.length ≤ 4)
def ofP (d : DraftD) : Prob := if ofOK d then ⟨nvs d, modsP d.now d.vs d.vs.length, modsP d.tgt d.vs d.vs.length, if d.vs.length = 0 then [] else d.links.map (tabP (nvs d))⟩ else nilP
theorem bitsP_sq (n m : Nat) (bad : Int) (diag : Bool) : sq (bitsP n m bad diag) n m = true := by
  simp [sq, sqRows, bitsP, rowP]
theorem bitsP_diag (n : Nat) (bad : Int) : diagFrom (bitsP n n bad true) 0 = true := by
  have gen : ∀ (l : List (List Bool)) (i : Nat), (∀ j (h : j < l.length), (l[j]).getD (i + j) false = true) → diagFrom l i = true := by
    intro l
    induction l with
    | nil => intros; rfl
    | cons r rest ih =>
      intro i h
      unfold diagFrom
      rw [show r.getD i false = true from h 0 (by simp), ih (i + 1) fun j hj => by
        have := h (j + 1) (by simpa using hj)
        rw [show i + 1 + j = i + (j + 1) by omega]
        exact this]
      rfl
  refine gen _ 0 fun j h => ?_
  have hj : j < n := by simpa [bitsP] using h
  simp [bitsP, rowP, hj, entryP]
theorem tabP_sound {vs : List Int} {l : LinkD} (hl : linkOK l) (hv : ∀ x ∈ vs, 1 ≤ x) (hn : 0 < vs.length) : tabErr vs (tabP vs l) = 0 := by
  have hk0 := Int.tmod_nonneg 4 hl.1.1
  have hk1 := Int.tmod_lt_of_pos l.kind (show (0 : Int) < 4 by omega)
  have hf0 := Int.tmod_nonneg (vs.length : Int) hl.2.1.1
  have hf1 := Int.tmod_lt_of_pos l.frm (show (0 : Int) < (vs.length : Int) by omega)
  have ht0 := Int.tmod_nonneg (vs.length : Int) hl.2.2.1.1
  have ht1 := Int.tmod_lt_of_pos l.tto (show (0 : Int) < (vs.length : Int) by omega)
  have hpos : ∀ i : Nat, 0 ≤ vs.getD i 0 := by
    intro i
    rw [List.getD_eq_getElem?_getD]
    by_cases h : i < vs.length
    · rw [List.getElem?_eq_getElem h]
      have := hv _ (List.getElem_mem h)
      simp; omega
    · rw [List.getElem?_eq_none (by omega)]; simp
  have e1 := hpos (l.frm.tmod vs.length).toNat
  have e2 := hpos (l.tto.tmod vs.length).toNat
  have s1 := bitsP_sq (vs.getD (l.frm.tmod vs.length).toNat 0).toNat (vs.getD (l.tto.tmod vs.length).toNat 0).toNat l.bad false
  rw [Int.toNat_of_nonneg e1, Int.toNat_of_nonneg e2] at s1
  have s2 := bitsP_sq (vs.getD (l.frm.tmod vs.length).toNat 0).toNat (vs.getD (l.frm.tmod vs.length).toNat 0).toNat l.lost true
  rw [Int.toNat_of_nonneg e1] at s2
  have s3 := bitsP_diag (vs.getD (l.frm.tmod vs.length).toNat 0).toNat l.lost
  have w1 : withinB (l.frm.tmod vs.length) vs.length = true := by simp only [withinB, decide_eq_true_eq]; omega
  have w2 : withinB (l.tto.tmod vs.length) vs.length = true := by simp only [withinB, decide_eq_true_eq]; omega
  have k1 : kindOK (1 + l.kind.tmod 4) (l.aware && !(decide (1 + l.kind.tmod 4 = 3) || decide (1 + l.kind.tmod 4 = 4))) = true := by
    simp only [kindOK, decide_eq_true_eq]
    refine ⟨by omega, by omega, fun ⟨h1, h2⟩ => ?_⟩
    simp only [Bool.and_eq_true, Bool.not_eq_true', Bool.or_eq_false_iff, decide_eq_false_iff_not] at h1
    rcases h2 with h2 | h2
    · exact h1.2.1 h2
    · exact h1.2.2 h2
  unfold tabErr
  simp only [tabP, k1, w1, w2, s1]
  by_cases h4 : 1 + l.kind.tmod 4 = 4
  · simp only [List.getD_eq_getElem?_getD] at s2 s3
    simp [h4, s2, s3]
  · simp [h4, diagFrom]
theorem ofP_sound {d : DraftD} (hd : draftOK d) (ho : ofOK d = true) : vpErr (ofP d) = 0 := by
  have ho' := ho
  simp only [ofOK, Bool.and_eq_true, decide_eq_true_eq] at ho'
  unfold ofP
  rw [if_pos ho]
  have hv : ∀ x ∈ nvs d, 1 ≤ x := fun x hx => by
    obtain ⟨y, hy, rfl⟩ := List.mem_map.1 hx
    exact (nP_rng (hd.1 y hy).1).1
  refine vp_parts.2 ⟨⟨by simp [nvs]; omega, ?_⟩, ⟨by simp [nvs, modsP], by simp [nvs, modsP]⟩, ?_, ?_⟩
  · simp only; split
    · simp
    · simp; omega
  · rw [rngOK_get (by simp [nvs, modsP]) (by simp [nvs, modsP])]
    intro i hi
    have hi' : i < d.vs.length := by simpa [nvs] using hi
    have hx := hd.1 _ (List.getElem_mem hi')
    have hn := nP_rng hx.1
    have e : (nvs d)[i]'(by simpa [nvs] using hi') = nP d.vs[i] := by simp [nvs]
    have wm : ∀ l : List Int, u8s l → withinB ((modsP l d.vs d.vs.length).getD i 0) (nP d.vs[i]) = true := by
      intro l hl
      have e1 : (modsP l d.vs d.vs.length).getD i 0 = (l.getD i 0).tmod (nP d.vs[i]) := by
        simp [modsP, List.getD_eq_getElem?_getD, hi']
      have h0 : 0 ≤ l.getD i 0 := by
        rw [List.getD_eq_getElem?_getD]
        by_cases h : i < l.length
        · rw [List.getElem?_eq_getElem h]
          exact (hl _ (List.getElem_mem h)).1
        · rw [List.getElem?_eq_none (by omega)]; simp
      rw [e1]
      simp only [withinB, decide_eq_true_eq]
      exact ⟨Int.tmod_nonneg _ h0, Int.tmod_lt_of_pos _ (by omega)⟩
    simp only
    rw [e]
    exact ⟨⟨hn.1, by omega⟩, wm _ hd.2.1, wm _ hd.2.2.1⟩
  · simp only
    split
    · rfl
    · rename_i h0
      rw [tabsErr_zero]
      intro t ht
      obtain ⟨l, hl, rfl⟩ := List.mem_map.1 ht
      exact tabP_sound (hd.2.2.2 l hl) hv (by simp [nvs]; omega)
end Go.Proofs.YtliooohflhogpaaGreatDoor
