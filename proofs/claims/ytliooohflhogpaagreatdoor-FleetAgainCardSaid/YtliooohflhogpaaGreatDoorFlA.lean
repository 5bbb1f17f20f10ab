/-
  The way back of the way back, restrictions of restrictions: the plain law.
-/
import Derived.Test.YtliooohflhogpaaGreatDoorFlQ
namespace Go.Proofs.YtliooohflhogpaaGreatDoor
open Go Go.RowKit
set_option linter.unusedSimpArgs false
set_option linter.unusedVariables false
theorem rngOK_swap : ∀ vs now tgt : List Int, rngOK vs now tgt = rngOK vs tgt now
  | n :: vs, a :: now, b :: tgt => by
    simp only [rngOK]
    rw [rngOK_swap vs now tgt]
    cases decide (1 ≤ n ∧ n ≤ 6) <;> cases withinB a n <;> cases withinB b n <;> rfl
  | [], [], [] => rfl
  | [], [], _ :: _ => rfl
  | [], _ :: _, [] => rfl
  | [], _ :: _, _ :: _ => rfl
  | _ :: _, [], [] => rfl
  | _ :: _, [], _ :: _ => rfl
  | _ :: _, _ :: _, [] => rfl
/-- What it says that a problem has no error. -/
theorem vp_parts {p : Prob} : vpErr p = 0 ↔ (p.vs.length ≤ 6 ∧ p.tabs.length ≤ 12) ∧ (p.now.length = p.vs.length ∧ p.tgt.length = p.vs.length) ∧ rngOK p.vs p.now p.tgt = true ∧ tabsErr p.vs p.tabs = 0 := by
  unfold vpErr
  constructor
  · intro h
    split at h
    · cases h
    · split at h
      · cases h
      · split at h
        · cases h
        · rename_i h1 h2 h3
          exact ⟨by omega, by omega, by simpa using h3, h⟩
  · rintro ⟨h1, h2, h3, h4⟩
    rw [if_neg (by omega), if_neg (by omega), if_neg (by simp [h3])]
    exact h4
theorem back_ok {p : Prob} (h : vpErr p = 0) : btw p p.tgt p.now = (⟨p.vs, p.tgt, p.now, p.tabs⟩, 0) := by
  have hq : vpErr ⟨p.vs, p.tgt, p.now, p.tabs⟩ = 0 := by
    obtain ⟨h1, h2, h3, h4⟩ := vp_parts.1 h
    exact vp_parts.2 ⟨h1, ⟨h2.2, h2.1⟩, by rw [rngOK_swap]; exact h3, h4⟩
  unfold btw
  rw [if_pos h, if_pos hq]
theorem back_back {p : Prob} (h : vpErr p = 0) : vpErr (btw p p.tgt p.now).1 = 0 ∧ (btw p p.tgt p.now).2 = 0 := by
  rw [back_ok h]
  obtain ⟨h1, h2, h3, h4⟩ := vp_parts.1 h
  exact ⟨vp_parts.2 ⟨h1, ⟨h2.2, h2.1⟩, by rw [rngOK_swap]; exact h3, h4⟩, rfl⟩
theorem tabsErr_zero {vs : List Int} : ∀ {ts : List Tab}, tabsErr vs ts = 0 ↔ ∀ t ∈ ts, tabErr vs t = 0
  | [] => by simp [tabsErr]
  | t :: ts => by
    unfold tabsErr
    constructor
    · intro h
      split at h
      · rename_i h1; exact absurd h h1
      · rename_i h1
        intro u hu
        rcases List.mem_cons.1 hu with rfl | hu
        · exact Classical.byContradiction h1
        · exact tabsErr_zero.1 h u hu
    · intro h
      rw [if_neg (by simpa using h t (by simp))]
      exact tabsErr_zero.2 fun u hu => h u (by simp [hu])
theorem rngOK_get : ∀ {vs now tgt : List Int}, now.length = vs.length → tgt.length = vs.length → (rngOK vs now tgt = true ↔ ∀ i (h : i < vs.length), (1 ≤ vs[i] ∧ vs[i] ≤ 6) ∧ withinB (now.getD i 0) vs[i] = true ∧ withinB (tgt.getD i 0) vs[i] = true)
  | [], [], [], _, _ => by simp [rngOK]
  | n :: vs, a :: now, b :: tgt, h1, h2 => by
    have ih := rngOK_get (vs := vs) (now := now) (tgt := tgt) (by simpa using h1) (by simpa using h2)
    simp only [rngOK, Bool.and_eq_true, decide_eq_true_eq]
    rw [ih]
    constructor
    · rintro ⟨⟨⟨k1, k2⟩, k3⟩, k4⟩ i hi
      rcases i with _ | i
      · exact ⟨k1, by simpa using k2, by simpa using k3⟩
      · simpa using k4 i (by simpa using hi)
    · intro h
      have h0 := h 0 (by simp)
      exact ⟨⟨⟨h0.1, by simpa using h0.2.1⟩, by simpa using h0.2.2⟩, fun i hi => h (i + 1) (by simpa using hi)⟩
  | [], _ :: _, _, h, _ => by simp at h
  | [], [], _ :: _, _, h => by simp at h
  | _ :: _, [], _, h, _ => by simp at h
  | _ :: _, _ :: _, [], _, h => by simp at h
/-- The tables of a sound problem are between its services. -/
theorem tab_within {vs : List Int} {t : Tab} (h : tabErr vs t = 0) : (0 ≤ t.frm ∧ t.frm < vs.length) ∧ (0 ≤ t.tto ∧ t.tto < vs.length) := by
  unfold tabErr at h
  split at h
  · cases h
  · split at h
    · cases h
    · rename_i h1 h2
      simp only [withinB, decide_eq_false_iff_not, not_or, Classical.not_not] at h2
      exact h2
/-- A list of services that ascend. -/
def Sel (n : Nat) (s : List Int) : Prop := ascTo s s.length ∧ inTo n s s.length
theorem asc_lt {s : List Int} (h : ascTo s s.length) : ∀ {i j : Nat} (hj : j < s.length) (hi : i < j), s[i] < s[j]
  | i, j + 1, hj, hi => by
    have h1 := h j hj (by omega)
    by_cases e : i = j
    · subst e; exact h1
    · have := asc_lt h (i := i) (j := j) (by omega) (by omega)
      omega
theorem asc_inj {s : List Int} (h : ascTo s s.length) {i j : Nat} (hi : i < s.length) (hj : j < s.length) (e : s[i] = s[j]) : i = j := by
  rcases Nat.lt_trichotomy i j with h1 | h1 | h1
  · have := asc_lt h hj h1; omega
  · exact h1
  · have := asc_lt h hi h1; omega
theorem idx_get {s : List Int} (h : ascTo s s.length) {i : Nat} (hi : i < s.length) : idx s s[i] = (i : Int) :=
  idx_hit hi (fun j hj hji e => by have := asc_inj h hi hj e; omega) rfl
/-- Where a number stands, if at all. -/
theorem idx_cases (s : List Int) (x : Int) : (idx s x = -1 ∧ ∀ j (hj : j < s.length), ¬ x = s[j]) ∨ ∃ j, ∃ hj : j < s.length, idx s x = (j : Int) ∧ x = s[j] := by
  have gen : ∀ (s : List Int) (i : Nat), (idxF s i x = -1 ∧ ∀ j (hj : j < s.length), ¬ x = s[j]) ∨ ∃ j, ∃ hj : j < s.length, idxF s i x = ((i + j : Nat) : Int) ∧ x = s[j] := by
    intro s
    induction s with
    | nil => intro i; left; exact ⟨rfl, fun j hj => by simp at hj⟩
    | cons y ys ih =>
      intro i
      unfold idxF
      by_cases e : x = y
      · right; exact ⟨0, by simp, by rw [if_pos e]; rfl, by simpa using e⟩
      · rw [if_neg e]
        rcases ih (i + 1) with ⟨h1, h2⟩ | ⟨j, hj, h1, h2⟩
        · left
          refine ⟨h1, fun j hj => ?_⟩
          rcases j with _ | j
          · simpa using e
          · simpa using h2 j (by simpa using hj)
        · right
          exact ⟨j + 1, by simpa using hj, by rw [h1]; congr 1; omega, by simpa using h2⟩
  have := gen s 0
  simpa [idx] using this
theorem pick_len (xs s : List Int) : (pick xs s).length = s.length := by simp [pick]
theorem pick_get {xs s : List Int} {i : Nat} (h : i < s.length) : (pick xs s).getD i 0 = xs.getD (s[i]).toNat 0 := by
  simp [pick, h, List.getD_eq_getElem?_getD]
/-- The table of a restriction. -/
theorem rstr_tab {vs s : List Int} {t u : Tab} (hs : Sel vs.length s) (ht : tabErr vs t = 0) (hu : pickTab s t = some u) : tabErr (pick vs s) u = 0 := by
  unfold pickTab at hu
  split at hu
  · rename_i h
    cases hu
    rcases idx_cases s t.frm with ⟨h1, _⟩ | ⟨j, hj, h1, h2⟩
    · omega
    · rcases idx_cases s t.tto with ⟨k1, _⟩ | ⟨l, hl, k1, k2⟩
      · omega
      · have e1 : (pick vs s).getD (idx s t.frm).toNat 0 = vs.getD t.frm.toNat 0 := by rw [h1, Int.toNat_natCast, pick_get hj, h2]
        have e2 : (pick vs s).getD (idx s t.tto).toNat 0 = vs.getD t.tto.toNat 0 := by rw [k1, Int.toNat_natCast, pick_get hl, k2]
        have w1 : withinB (idx s t.frm) (pick vs s).length = true := by simp only [withinB, decide_eq_true_eq, pick_len]; omega
        have w2 : withinB (idx s t.tto) (pick vs s).length = true := by simp only [withinB, decide_eq_true_eq, pick_len]; omega
        obtain ⟨g1, g2⟩ := tab_within ht
        have w3 : withinB t.frm vs.length = true := by simp only [withinB, decide_eq_true_eq]; exact g1
        have w4 : withinB t.tto vs.length = true := by simp only [withinB, decide_eq_true_eq]; exact g2
        unfold tabErr at ht ⊢
        simp only [e1, e2, w1, w2, w3, w4] at ht ⊢
        exact ht
  · cases hu
theorem pickB_get {n : Nat} {xs s : List Int} (hs : inTo n s s.length) (hx : xs.length = n) {i : Nat} (h : i < s.length) : (pick xs s)[i]'(by rw [pick_len]; exact h) = xs[(s[i]).toNat]'(by have := hs i h h; omega) := by
  have := hs i h h
  simp only [pick, List.getElem_map]
  rw [List.getD_eq_getElem?_getD, List.getElem?_eq_getElem (by omega)]
  rfl
/-- A restriction of a sound problem is sound. -/
theorem rstr_sound {p : Prob} {s : List Int} (h : vpErr p = 0) (hs : Sel p.vs.length s) (hl : s.length ≤ 6) : vpErr (rstr p s).1 = 0 := by
  rw [rstr_ok h hs.1 hs.2]
  obtain ⟨⟨h1, h2⟩, ⟨h3, h4⟩, h5, h6⟩ := vp_parts.1 h
  refine vp_parts.2 ⟨⟨by simpa [pick_len] using hl, Nat.le_trans (rsTabs_len _ _) h2⟩, ⟨by simp [pick_len], by simp [pick_len]⟩, ?_, ?_⟩
  · rw [rngOK_get (by simp [pick_len]) (by simp [pick_len])]
    intro i hi
    have hi' : i < s.length := by simpa [pick_len] using hi
    obtain ⟨a1, a2⟩ := hs.2 i hi' hi'
    have hk : (s[i]).toNat < p.vs.length := by omega
    have := (rngOK_get h3 h4).1 h5 (s[i]).toNat hk
    rw [pickB_get hs.2 rfl hi', pick_get hi', pick_get hi']
    exact this
  · rw [tabsErr_zero] at h6 ⊢
    intro u hu
    obtain ⟨t, ht, hp⟩ := List.mem_filterMap.1 hu
    exact rstr_tab hs (h6 t ht) hp
def allN (n : Nat) : List Int := (List.range n).map fun i : Nat => (i : Int)
theorem allN_len (n : Nat) : (allN n).length = n := by simp [allN]
theorem allN_get {n i : Nat} (h : i < (allN n).length) : (allN n)[i] = (i : Int) := by simp [allN]
/-- The restriction to all services is the problem itself. -/
theorem rstr_all {p : Prob} (h : vpErr p = 0) : rstr p (allN p.vs.length) = (p, 0) ∧ Sel p.vs.length (allN p.vs.length) := by
  have hS : Sel p.vs.length (allN p.vs.length) := ⟨fun j h1 h2 => by rw [allN_get, allN_get]; omega, fun j h1 h2 => by rw [allN_get]; rw [allN_len] at h1; omega⟩
  obtain ⟨⟨h1, h2⟩, ⟨h3, h4⟩, h5, h6⟩ := vp_parts.1 h
  have hp : ∀ xs : List Int, xs.length = p.vs.length → pick xs (allN p.vs.length) = xs := by
    intro xs hx
    apply List.ext_getElem
    · rw [pick_len, allN_len, hx]
    · intro i k1 k2
      rw [pickB_get hS.2 hx (by simpa [pick] using k1)]
      congr 1
      rw [allN_get]
      simp
  have e : ∀ x : Int, 0 ≤ x → x < p.vs.length → idx (allN p.vs.length) x = x := by
    intro x k1 k2
    have hx : x.toNat < (allN p.vs.length).length := by rw [allN_len]; omega
    have := idx_get hS.1 hx
    rw [allN_get] at this
    rw [show ((x.toNat : Nat) : Int) = x by omega] at this
    exact this
  have ht : ∀ ts : List Tab, (∀ t ∈ ts, tabErr p.vs t = 0) → rsTabs (allN p.vs.length) ts = ts := by
    intro ts
    induction ts with
    | nil => intro _; rfl
    | cons t ts ih =>
      intro ha
      obtain ⟨⟨a1, a2⟩, b1, b2⟩ := tab_within (ha t (by simp))
      have hpt : pickTab (allN p.vs.length) t = some t := by
        unfold pickTab
        rw [e _ a1 a2, e _ b1 b2, if_pos ⟨a1, b1⟩]
      have := ih fun u hu => ha u (by simp [hu])
      simp only [rsTabs] at this ⊢
      rw [List.filterMap_cons, hpt, this]
  refine ⟨?_, hS⟩
  rw [rstr_ok h hS.1 hS.2, hp p.vs rfl, hp p.now h3, hp p.tgt h4, ht p.tabs (tabsErr_zero.1 h6)]
theorem idxF_map {g : Int → Int} {x j : Int} : ∀ {ys : List Int} {i : Nat}, (∀ y ∈ ys, (x = g y ↔ j = y)) → idxF (ys.map g) i x = idxF ys i j
  | [], _, _ => rfl
  | y :: ys, i, h => by
    simp only [List.map_cons, idxF]
    have h1 := h y (by simp)
    by_cases e : j = y
    · rw [if_pos e, if_pos (h1.2 e)]
    · rw [if_neg e, if_neg (fun k => e (h1.1 k)), idxF_map fun u hu => h u (by simp [hu])]
theorem idxF_none {x : Int} : ∀ {ys : List Int} {i : Nat}, (∀ y ∈ ys, ¬ x = y) → idxF ys i x = -1
  | [], _, _ => rfl
  | y :: ys, i, h => by
    simp only [idxF]
    rw [if_neg (h y (by simp)), idxF_none fun u hu => h u (by simp [hu])]
/-- The restriction of a restriction. -/
theorem rstr_rstr {p : Prob} {s r b : List Int} (h : vpErr p = 0) (hs : Sel p.vs.length s) (hl : s.length ≤ 6) (hr : Sel s.length r) (hb : Sel p.vs.length b) (he : b = r.map fun j => s.getD j.toNat 0) :
    rstr (rstr p s).1 r = rstr p b := by
  have hx := rstr_sound h hs hl
  have hr' : Sel (rstr p s).1.vs.length r := by rw [rstr_ok h hs.1 hs.2]; simpa [pick_len] using hr
  rw [rstr_ok hx hr'.1 hr'.2, rstr_ok h hb.1 hb.2, rstr_ok h hs.1 hs.2]
  simp only
  have hget : ∀ j : Int, j ∈ r → 0 ≤ j ∧ ∃ hj : j.toNat < s.length, s.getD j.toNat 0 = s[j.toNat] := by
    intro j hj
    obtain ⟨i, hi, rfl⟩ := List.getElem_of_mem hj
    obtain ⟨a1, a2⟩ := hr.2 i hi hi
    exact ⟨a1, by omega, by rw [List.getD_eq_getElem?_getD, List.getElem?_eq_getElem (by omega)]; rfl⟩
  have hp : ∀ xs : List Int, pick (pick xs s) r = pick xs b := by
    intro xs
    rw [he]
    simp only [pick, List.map_map]
    apply List.map_congr_left
    intro j hj
    obtain ⟨h0, hj', e⟩ := hget j hj
    simp only [Function.comp]
    rw [e]
    exact pick_get (xs := xs) hj'
  have ht : rsTabs r (rsTabs s p.tabs) = rsTabs b p.tabs := by
    simp only [rsTabs, List.filterMap_filterMap]
    congr 1
    funext t
    have key : ∀ x : Int, (0 ≤ idx s x ∧ 0 ≤ idx r (idx s x) ↔ 0 ≤ idx b x) ∧ (0 ≤ idx s x → idx r (idx s x) = idx b x) := by
      intro x
      rcases idx_cases s x with ⟨h1, h2⟩ | ⟨j, hj, h1, h2⟩
      · have : idx b x = -1 := by
          rw [he]
          refine idxF_none fun y hy e => ?_
          obtain ⟨k, hk, rfl⟩ := List.mem_map.1 hy
          obtain ⟨_, hj', e'⟩ := hget k hk
          exact h2 _ hj' (by rw [e, e'])
        exact ⟨⟨fun k => by omega, fun k => by omega⟩, fun k => by omega⟩
      · have : idx b x = idx r (j : Int) := by
          rw [he]
          refine idxF_map fun y hy => ?_
          obtain ⟨h0, hj', e'⟩ := hget y hy
          rw [e']
          constructor
          · intro e
            have := asc_inj hs.1 hj hj' (by rw [← h2, e])
            omega
          · intro e
            subst e
            simpa using h2
        rw [h1, this]
        exact ⟨⟨fun k => k.2, fun k => ⟨by omega, k⟩⟩, fun _ => rfl⟩
    unfold pickTab
    obtain ⟨f1, f2⟩ := key t.frm
    obtain ⟨g1, g2⟩ := key t.tto
    by_cases a : 0 ≤ idx s t.frm ∧ 0 ≤ idx s t.tto
    · rw [if_pos a]
      simp only [Option.bind_some]
      rw [f2 a.1, g2 a.2]
    · rw [if_neg a, if_neg (fun k => a ⟨(f1.2 k.1).1, (g1.2 k.2).1⟩)]
      rfl
  rw [hp p.vs, hp p.now, hp p.tgt, ht]
end Go.Proofs.YtliooohflhogpaaGreatDoor
