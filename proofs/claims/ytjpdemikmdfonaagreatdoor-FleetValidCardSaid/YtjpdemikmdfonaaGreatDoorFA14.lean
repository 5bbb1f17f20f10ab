/- Rules of runs and contracts of functions, for the claims of one seat. -/
import Derived.Test.YtjpdemikmdfonaaGreatDoorFA12
import Derived.Test.YtjpdemikmdfonaaGreatDoorFA13
namespace Go.Proofs.YtjpdemikmdfonaaGreatDoor
open Go Go.RowKit
set_option linter.unusedVariables false
set_option linter.unusedSimpArgs false
def nAt (n : List Int) (i : Int) : Int := n.getD i.toNat 0
def recC (n : List Int) (l : List MemD) : Int := l.foldl (fun c m => min 2 (c * nAt n m.typ)) 1
def uniC (n : List Int) (l : List MemD) : Int := l.foldl (fun c m => min 2 (c + nAt n m.typ)) 0
def uniS (n : List Int) (l : List MemD) : Int := l.foldl (fun c m => c + nAt n m.typ) 0
def countR (n : List Int) (t : TypD) : Int :=
 if t.kind = 2 then (if t.low = t.high then 1 else 2)
 else if t.kind = 3 then (if t.max = 0 then 1 else 2)
 else if t.kind = 4 then min 2 (t.syms.length : Int)
 else if t.kind = 5 then recC n t.mems
 else if t.kind = 6 then uniC n t.mems
 else if t.kind = 7 ∨ t.kind = 8 then (if t.max = 0 ∨ nAt n t.elem = 0 then 1 else 2)
 else if t.kind = 9 then min 2 (1 + nAt n t.elem)
 else 2
def countQ (n : List Int) (t : TypD) : Int :=
 if t.kind = 2 then (if t.low = t.high then 1 else 2)
 else if t.kind = 3 then (if t.max = 0 then 1 else 2)
 else if t.kind = 4 then (t.syms.length : Int)
 else if t.kind = 5 then recC n t.mems
 else if t.kind = 6 then uniS n t.mems
 else if t.kind = 7 then (if t.max = 0 ∨ nAt n t.elem = 0 then 1 else 2)
 else if t.kind = 8 then (if t.max = 0 ∨ nAt n t.elem = 0 ∨ nAt n t.key = 0 then 1 else 2)
 else if t.kind = 9 then 1 + nAt n t.elem
 else 2
def countQ2 (n : List Int) (t : TypD) : Int := min 2 (countQ n t)
def okN (n : List Int) : Prop := ∀ i : Nat, 0 ≤ n.getD i 0 ∧ n.getD i 0 ≤ 2
def leN (n n' : List Int) : Prop := ∀ i : Nat, n.getD i 0 ≤ n'.getD i 0
def posG (S : Int → Prop) (t : TypD) : Prop :=
 (t.kind = 5 → ∀ m ∈ t.mems, S m.typ) ∧ (t.kind = 6 → ∃ m ∈ t.mems, S m.typ) ∧ (t.kind = 4 → t.syms ≠ [])
theorem posG_mono {S T : Int → Prop} {t : TypD} (h : ∀ i, S i → T i) (hp : posG S t) : posG T t :=
 ⟨fun h5 m hm => h _ (hp.1 h5 m hm), fun h6 => (hp.2.1 h6).elim fun m hm => ⟨m, hm.1, h _ hm.2⟩, hp.2.2⟩
theorem min2_mul {a b : Int} (ha : 0 ≤ a ∧ a ≤ 2) (hb : 0 ≤ b ∧ b ≤ 2) : 0 ≤ min 2 (a * b) ∧ min 2 (a * b) ≤ 2 ∧ (0 < min 2 (a * b) ↔ 0 < a ∧ 0 < b) := by
 have h : a = 0 ∨ a = 1 ∨ a = 2 := by omega
 rcases h with rfl | rfl | rfl <;> omega
theorem min2_mul_le {a b a' b' : Int} (ha : 0 ≤ a ∧ a ≤ 2) (hb : 0 ≤ b ∧ b ≤ 2) (h1 : a ≤ a') (h2 : b ≤ b') (ha' : a' ≤ 2) (_ : b' ≤ 2) : min 2 (a * b) ≤ min 2 (a' * b') := by
 have h : a = 0 ∨ a = 1 ∨ a = 2 := by omega
 have h' : a' = 0 ∨ a' = 1 ∨ a' = 2 := by omega
 rcases h with rfl | rfl | rfl <;> rcases h' with rfl | rfl | rfl <;> omega
theorem recC_fold {n : List Int} (hn : okN n) : ∀ (l : List MemD) (c : Int), 0 ≤ c ∧ c ≤ 2 →
    (0 ≤ l.foldl (fun c m => min 2 (c * nAt n m.typ)) c ∧ l.foldl (fun c m => min 2 (c * nAt n m.typ)) c ≤ 2) ∧ (0 < l.foldl (fun c m => min 2 (c * nAt n m.typ)) c ↔ 0 < c ∧ ∀ m ∈ l, 0 < nAt n m.typ)
 | [], c, hc => ⟨hc, by simp⟩
 | m :: r, c, hc => by
  have h1 := min2_mul hc (hn m.typ.toNat)
  have h2 := recC_fold hn r (min 2 (c * nAt n m.typ)) ⟨h1.1, h1.2.1⟩
  refine ⟨h2.1, h2.2.trans ?_⟩
  have h3 := h1.2.2
  constructor
  ·rintro ⟨a, b⟩
   exact ⟨(h3.1 a).1, fun x hx => by
    rcases List.mem_cons.1 hx with rfl | hx
    ·exact (h3.1 a).2
    ·exact b x hx⟩
  ·rintro ⟨a, b⟩
   exact ⟨h3.2 ⟨a, b m (List.mem_cons_self ..)⟩, fun x hx => b x (List.mem_cons_of_mem _ hx)⟩
theorem recC_le {n n' : List Int} (hn : okN n) (hn' : okN n') (h : leN n n') : ∀ (l : List MemD) (c c' : Int), 0 ≤ c ∧ c ≤ 2 → c' ≤ 2 → c ≤ c' → l.foldl (fun c m => min 2 (c * nAt n m.typ)) c ≤ l.foldl (fun c m => min 2 (c * nAt n' m.typ)) c'
 | [], _, _, _, _, h => h
 | m :: r, c, c', hc, hc', hcc => by
  have h1 := min2_mul hc (hn m.typ.toNat)
  have h1' := min2_mul (a := c') (by omega) (hn' m.typ.toNat)
  exact recC_le hn hn' h r _ _ ⟨h1.1, h1.2.1⟩ h1'.2.1 (min2_mul_le hc (hn m.typ.toNat) hcc (h m.typ.toNat) hc' (hn' m.typ.toNat).2)
theorem uniC_fold {n : List Int} (hn : okN n) : ∀ (l : List MemD) (c : Int), 0 ≤ c ∧ c ≤ 2 →
    (0 ≤ l.foldl (fun c m => min 2 (c + nAt n m.typ)) c ∧ l.foldl (fun c m => min 2 (c + nAt n m.typ)) c ≤ 2) ∧ (0 < l.foldl (fun c m => min 2 (c + nAt n m.typ)) c ↔ 0 < c ∨ ∃ m ∈ l, 0 < nAt n m.typ)
 | [], c, hc => ⟨hc, by simp⟩
 | m :: r, c, hc => by
  have h0 := hn m.typ.toNat
  have h2 := uniC_fold hn r (min 2 (c + nAt n m.typ)) (by unfold nAt; omega)
  refine ⟨h2.1, h2.2.trans ?_⟩
  have h3 : 0 < min 2 (c + nAt n m.typ) ↔ 0 < c ∨ 0 < nAt n m.typ := by unfold nAt; omega
  rw [h3, or_assoc]
  simp
theorem uniC_le {n n' : List Int} (h : leN n n') : ∀ (l : List MemD) (c c' : Int), c ≤ c' → l.foldl (fun c m => min 2 (c + nAt n m.typ)) c ≤ l.foldl (fun c m => min 2 (c + nAt n' m.typ)) c'
 | [], _, _, h => h
 | m :: r, c, c', hcc => by
  have := h m.typ.toNat
  exact uniC_le h r _ _ (by show min 2 (c + nAt n m.typ) ≤ min 2 (c' + nAt n' m.typ); unfold nAt; omega)
theorem uniS_fold {n : List Int} (hn : okN n) : ∀ (l : List MemD) (c : Int), 0 ≤ c →
    (c ≤ l.foldl (fun c m => c + nAt n m.typ) c ∧ l.foldl (fun c m => c + nAt n m.typ) c ≤ c + 2 * l.length) ∧ (0 < l.foldl (fun c m => c + nAt n m.typ) c ↔ 0 < c ∨ ∃ m ∈ l, 0 < nAt n m.typ)
 | [], c, hc => ⟨by simp, by simp⟩
 | m :: r, c, hc => by
  have h0 := hn m.typ.toNat
  have h2 := uniS_fold hn r (c + nAt n m.typ) (by unfold nAt; omega)
  have h4 : 0 ≤ nAt n m.typ ∧ nAt n m.typ ≤ 2 := h0
  refine ⟨⟨by have := h2.1.1; simp only [List.foldl_cons]; omega, by have := h2.1.2; simp only [List.foldl_cons, List.length_cons]; omega⟩, h2.2.trans ?_⟩
  have h3 : 0 < c + nAt n m.typ ↔ 0 < c ∨ 0 < nAt n m.typ := by omega
  rw [h3, or_assoc]
  simp
theorem uniS_le {n n' : List Int} (h : leN n n') : ∀ (l : List MemD) (c c' : Int), c ≤ c' → l.foldl (fun c m => c + nAt n m.typ) c ≤ l.foldl (fun c m => c + nAt n' m.typ) c'
 | [], _, _, h => h
 | m :: r, c, c', hcc => by
  have := h m.typ.toNat
  exact uniS_le h r _ _ (by show c + nAt n m.typ ≤ c' + nAt n' m.typ; unfold nAt; omega)
structure CntOk (c : List Int → TypD → Int) : Prop where
 rng : ∀ n t, okN n → 0 ≤ c n t ∧ c n t ≤ 2
 pos : ∀ n t, okN n → (0 < c n t ↔ posG (fun i => 0 < nAt n i) t)
 mono : ∀ n n' t, okN n → okN n' → leN n n' → c n t ≤ c n' t
theorem syms_pos {l : List SymD} : 0 < (l.length : Int) ↔ l ≠ [] := by
 cases l with
 | nil => simp
 | cons x r => simp
theorem cntR_ok : CntOk countR where
 rng n t hn := by
  have h5 := (recC_fold hn t.mems 1 (by omega)).1
  have h6 := (uniC_fold hn t.mems 0 (by omega)).1
  have h9 := hn t.elem.toNat
  unfold countR recC uniC nAt at *
  (repeat' split) <;> omega
 pos n t hn := by
  have h5 := (recC_fold hn t.mems 1 (by omega)).2
  have h6 := (uniC_fold hn t.mems 0 (by omega)).2
  have h9 := hn t.elem.toNat
  have h4 := syms_pos (l := t.syms)
  simp only [Int.zero_lt_one, true_and, Int.lt_irrefl, false_or] at h5 h6
  unfold countR posG
  by_cases k4 : t.kind = 4
  ·simp only [k4, show ¬ (4 : Int) = 2 by omega, show ¬ (4 : Int) = 3 by omega, show ¬ (4 : Int) = 5 by omega, show ¬ (4 : Int) = 6 by omega, if_true, if_false, false_implies, true_and, true_implies]
   rw [← h4]; omega
  ·by_cases k5 : t.kind = 5
   ·simp only [k5, show ¬ (5 : Int) = 2 by omega, show ¬ (5 : Int) = 3 by omega, show ¬ (5 : Int) = 4 by omega, show ¬ (5 : Int) = 6 by omega, if_true, if_false, false_implies, and_true, true_implies]
    exact h5
   ·by_cases k6 : t.kind = 6
    ·simp only [k6, show ¬ (6 : Int) = 2 by omega, show ¬ (6 : Int) = 3 by omega, show ¬ (6 : Int) = 4 by omega, show ¬ (6 : Int) = 5 by omega, if_true, if_false, false_implies, and_true, true_and, true_implies]
     exact h6
    ·simp only [k4, k5, k6, if_false, false_implies, and_self, iff_true]
     unfold nAt
     (repeat' split) <;> omega
 mono n n' t hn hn' h := by
  have h5 := recC_le hn hn' h t.mems 1 1 (by omega) (by omega) (by omega)
  have h6 := uniC_le h t.mems 0 0 (by omega)
  have h9 := h t.elem.toNat
  have h8 := hn t.elem.toNat
  unfold countR recC uniC nAt at *
  (repeat' split) <;> omega
theorem cntQ_ok : CntOk countQ2 where
 rng n t hn := by
  have h5 := (recC_fold hn t.mems 1 (by omega)).1
  have h6 := (uniS_fold hn t.mems 0 (by omega)).1
  have h9 := hn t.elem.toNat
  unfold countQ2 countQ recC uniS nAt at *
  (repeat' split) <;> omega
 pos n t hn := by
  have h5 := (recC_fold hn t.mems 1 (by omega)).2
  have h6 := (uniS_fold hn t.mems 0 (by omega)).2
  have h9 := hn t.elem.toNat
  have h4 := syms_pos (l := t.syms)
  simp only [Int.zero_lt_one, true_and, Int.lt_irrefl, false_or] at h5 h6
  unfold countQ2 countQ posG
  by_cases k4 : t.kind = 4
  ·simp only [k4, show ¬ (4 : Int) = 2 by omega, show ¬ (4 : Int) = 3 by omega, show ¬ (4 : Int) = 5 by omega, show ¬ (4 : Int) = 6 by omega, if_true, if_false, false_implies, true_and, true_implies]
   rw [← h4]; omega
  ·by_cases k5 : t.kind = 5
   ·simp only [k5, show ¬ (5 : Int) = 2 by omega, show ¬ (5 : Int) = 3 by omega, show ¬ (5 : Int) = 4 by omega, show ¬ (5 : Int) = 6 by omega, if_true, if_false, false_implies, and_true, true_implies]
    unfold recC; rw [← h5]; omega
   ·by_cases k6 : t.kind = 6
    ·simp only [k6, show ¬ (6 : Int) = 2 by omega, show ¬ (6 : Int) = 3 by omega, show ¬ (6 : Int) = 4 by omega, show ¬ (6 : Int) = 5 by omega, if_true, if_false, false_implies, and_true, true_and, true_implies]
     unfold uniS; rw [← h6]; omega
    ·simp only [k4, k5, k6, if_false, false_implies, and_self, iff_true]
     unfold nAt
     (repeat' split) <;> omega
 mono n n' t hn hn' h := by
  have h5 := recC_le hn hn' h t.mems 1 1 (by omega) (by omega) (by omega)
  have h6 := uniS_le h t.mems 0 0 (by omega)
  have h9 := h t.elem.toNat
  have h8 := hn t.elem.toNat
  have g9 := h t.key.toNat
  have g8 := hn t.key.toNat
  unfold countQ2 countQ recC uniS nAt at *
  (repeat' split) <;> omega
def passN (c : List Int → TypD → Int) (l : List TypD) (n : List Int) : Nat → List Int
 | 0 => n
 | i + 1 => (passN c l n i).set i (c (passN c l n i) (l.getD i nilT0))
def passA (c : List Int → TypD → Int) (l : List TypD) (n : List Int) : List Int := passN c l n l.length
def iterA (c : List Int → TypD → Int) (l : List TypD) : Nat → List Int
 | 0 => List.replicate l.length 0
 | k + 1 => passA c l (iterA c l k)
def countsA (c : List Int → TypD → Int) (l : List TypD) : List Int := iterA c l (2 * l.length + 1)
def closedG (l : List TypD) (T : Int → Prop) : Prop := ∀ i : Nat, i < l.length → posG T (l.getD i nilT0) → T i
structure InvN (c : List Int → TypD → Int) (l : List TypD) (n : List Int) : Prop where
 len : n.length = l.length
 ok : okN n
 up : ∀ i : Nat, i < l.length → n.getD i 0 ≤ c n (l.getD i nilT0)
 least : ∀ T : Int → Prop, (∀ i, T i ↔ T (i.toNat : Int)) → closedG l T → ∀ i : Int, 0 < nAt n i → T i
theorem set_getD {n : List Int} {i j : Nat} {v : Int} : (n.set i v).getD j 0 = if i = j ∧ i < n.length then v else n.getD j 0 := by
 simp only [List.getD_eq_getElem?_getD, List.getElem?_set]
 by_cases h : i = j
 ·subst h
  by_cases h2 : i < n.length
  ·simp [h2]
  ·simp [h2]
 ·simp [h]
theorem InvN.step {c : List Int → TypD → Int} (hc : CntOk c) {l : List TypD} {n : List Int} (h : InvN c l n) {i : Nat} (hi : i < l.length) : InvN c l (n.set i (c n (l.getD i nilT0))) ∧ leN n (n.set i (c n (l.getD i nilT0))) := by
 have hil : i < n.length := by rw [h.len]; exact hi
 have hok : okN (n.set i (c n (l.getD i nilT0))) := fun j => by
  rw [set_getD]
  split
  ·exact hc.rng n _ h.ok
  ·exact h.ok j
 have hle : leN n (n.set i (c n (l.getD i nilT0))) := fun j => by
  rw [set_getD]
  split
  ·rename_i e; rw [← e.1]; exact h.up i hi
  ·exact Int.le_refl _
 refine ⟨⟨by rw [List.length_set]; exact h.len, hok, fun j hj => ?_, fun T hT hcl j hj => ?_⟩, hle⟩
 ·have hm := hc.mono n _ (l.getD j nilT0) h.ok hok hle
  rw [set_getD]
  split
  ·rename_i e; rw [← e.1] at hm ⊢; exact hm
  ·exact Int.le_trans (h.up j hj) hm
 ·unfold nAt at hj
  rw [set_getD] at hj
  split at hj
  ·rename_i e
   have hp := (hc.pos n (l.getD i nilT0) h.ok).1 hj
   have := hcl i hi (posG_mono (fun k hk => h.least T hT hcl k hk) hp)
   rw [hT, ← e.1]; exact this
  ·exact h.least T hT hcl j hj
theorem leN.trans {a b c : List Int} (h : leN a b) (h' : leN b c) : leN a c := fun i => Int.le_trans (h i) (h' i)
theorem InvN.pass {c : List Int → TypD → Int} (hc : CntOk c) {l : List TypD} {n : List Int} (h : InvN c l n) : ∀ i, i ≤ l.length → InvN c l (passN c l n i) ∧ leN n (passN c l n i)
 | 0, _ => ⟨h, fun _ => Int.le_refl _⟩
 | i + 1, hi => by
  have h1 := InvN.pass hc h i (by omega)
  have h2 := h1.1.step hc (i := i) (by omega)
  exact ⟨h2.1, h1.2.trans h2.2⟩
theorem inv_zero {c : List Int → TypD → Int} (hc : CntOk c) (l : List TypD) : InvN c l (List.replicate l.length 0) := by
 have h0 : ∀ i : Nat, (List.replicate l.length (0 : Int)).getD i 0 = 0 := fun i => by
  rw [List.getD_eq_getElem?_getD, List.getElem?_replicate]; split <;> rfl
 have hok : okN (List.replicate l.length 0) := fun i => by rw [h0]; omega
 refine ⟨List.length_replicate, hok, fun i _ => by rw [h0]; exact (hc.rng _ _ hok).1, fun T _ _ i hi => ?_⟩
 unfold nAt at hi
 rw [h0] at hi; omega
theorem inv_iter {c : List Int → TypD → Int} (hc : CntOk c) (l : List TypD) : ∀ k, InvN c l (iterA c l k)
 | 0 => inv_zero hc l
 | k + 1 => ((inv_iter hc l k).pass hc l.length (Nat.le_refl _)).1
theorem nsum_le {a b : List Int} : a.length = b.length → leN a b → a.sum ≤ b.sum ∧ (a ≠ b → a.sum < b.sum) := by
 induction a generalizing b with
 | nil => intro hl _; cases b with
  | nil => simp
  | cons y s => simp at hl
 | cons x r ih => intro hl h; cases b with
  | nil => simp at hl
  | cons y s =>
   have h0 := h 0
   have h1 := ih (b := s) (by simpa using hl) fun i => by have := h (i + 1); simpa using this
   simp at h0
   simp only [List.sum_cons]
   refine ⟨by omega, fun hne => ?_⟩
   by_cases e : r = s
   ·subst e
    have : x ≠ y := fun e => hne (by rw [e])
    omega
   ·have := h1.2 e; omega
theorem sum_rng {a : List Int} : okN a → 0 ≤ a.sum ∧ a.sum ≤ 2 * a.length := by
 induction a with
 | nil => intro _; simp
 | cons x r ih =>
  intro h
  have h0 := h 0
  have h1 := ih fun i => by have := h (i + 1); simpa using this
  simp at h0
  simp only [List.sum_cons, List.length_cons]
  omega
theorem pass_sum {c : List Int → TypD → Int} (hc : CntOk c) {l : List TypD} {n : List Int} (h : InvN c l n) (hne : passA c l n ≠ n) : n.sum < (passA c l n).sum := by
 have h1 := h.pass hc l.length (Nat.le_refl _)
 exact (nsum_le (by rw [h.len]; exact h1.1.len.symm) h1.2).2 fun e => hne e.symm
theorem iter_fix {c : List Int → TypD → Int} {l : List TypD} {k : Nat} (h : passA c l (iterA c l k) = iterA c l k) : ∀ j, k ≤ j → iterA c l j = iterA c l k := by
 intro j hj
 induction j with
 | zero => have : k = 0 := by omega
           subst this; rfl
 | succ j ih =>
  rcases Nat.lt_or_eq_of_le hj with g | g
  ·show passA c l (iterA c l j) = _
   rw [ih (by omega)]; exact h
  ·rw [← g]
theorem iter_sum {c : List Int → TypD → Int} (hc : CntOk c) (l : List TypD) : ∀ k, passA c l (iterA c l k) = iterA c l k ∨ (k : Int) ≤ (iterA c l k).sum
 | 0 => .inr (sum_rng (inv_iter hc l 0).ok).1
 | k + 1 => by
  rcases iter_sum hc l k with h | h
  ·left
   have e : iterA c l (k + 1) = iterA c l k := h
   rw [e]; exact h
  ·by_cases g : passA c l (iterA c l k) = iterA c l k
   ·left
    have e : iterA c l (k + 1) = iterA c l k := g
    rw [e]; exact g
   ·right
    have := pass_sum hc (inv_iter hc l k) g
    show ((k + 1 : Nat) : Int) ≤ (passA c l (iterA c l k)).sum
    omega
theorem counts_fix {c : List Int → TypD → Int} (hc : CntOk c) (l : List TypD) : passA c l (countsA c l) = countsA c l := by
 rcases iter_sum hc l (2 * l.length + 1) with h | h
 ·exact h
 ·have h1 := sum_rng (inv_iter hc l (2 * l.length + 1)).ok
  rw [(inv_iter hc l (2 * l.length + 1)).len] at h1
  omega
theorem pass_at {c : List Int → TypD → Int} {l : List TypD} {n : List Int} (hn : n.length = l.length) : ∀ i, i ≤ l.length → (passN c l n i).length = l.length ∧ ∀ j, i ≤ j → (passN c l n i).getD j 0 = n.getD j 0
 | 0, _ => ⟨hn, fun _ _ => rfl⟩
 | i + 1, hi => by
  have h := pass_at (c := c) hn i (by omega)
  refine ⟨by unfold passN; rw [List.length_set]; exact h.1, fun j hj => ?_⟩
  unfold passN
  rw [set_getD, if_neg (by omega)]
  exact h.2 j (by omega)
theorem pass_keep {c : List Int → TypD → Int} {l : List TypD} {n : List Int} {j : Nat} : ∀ i, j < i → (passN c l n i).getD j 0 = (passN c l n (j + 1)).getD j 0
 | 0, h => absurd h (Nat.not_lt_zero _)
 | i + 1, h => by
  rcases Nat.lt_or_eq_of_le (Nat.le_of_lt_succ h) with g | g
  ·show ((passN c l n i).set i _).getD j 0 = _
   rw [set_getD, if_neg (by omega)]
   exact pass_keep i g
  ·rw [g]
theorem list_extI {a b : List Int} (hl : a.length = b.length) (h : ∀ j : Nat, a.getD j 0 = b.getD j 0) : a = b := by
 refine List.ext_getElem hl fun j h1 h2 => ?_
 have := h j
 simpa [List.getD, h1, h2] using this
theorem fix_at {c : List Int → TypD → Int} {l : List TypD} {n : List Int} (hn : n.length = l.length) (h : passA c l n = n) : ∀ i, i ≤ l.length → passN c l n i = n := by
 intro i hi
 have h1 := pass_at (c := c) hn i hi
 refine list_extI (by rw [h1.1, hn]) fun j => ?_
 rcases Nat.lt_or_ge j i with g | g
 ·have e1 := pass_keep (c := c) (l := l) (n := n) i g
  have e2 := pass_keep (c := c) (l := l) (n := n) l.length (Nat.lt_of_lt_of_le g hi)
  rw [e1, ← e2]
  show (passA c l n).getD j 0 = _
  rw [h]
 ·exact h1.2 j g
theorem fix_val {c : List Int → TypD → Int} {l : List TypD} {n : List Int} (hn : n.length = l.length) (h : passA c l n = n) {i : Nat} (hi : i < l.length) : n.getD i 0 = c n (l.getD i nilT0) := by
 have h1 := fix_at hn h (i + 1) hi
 have h2 := fix_at hn h i (by omega)
 unfold passN at h1
 rw [h2] at h1
 have := congrArg (fun x : List Int => x.getD i 0) h1
 simp only [set_getD, true_and] at this
 rw [if_pos (by omega)] at this
 exact this.symm
theorem fix_closed {c : List Int → TypD → Int} (hc : CntOk c) {l : List TypD} {n : List Int} (hi : InvN c l n) (h : passA c l n = n) : closedG l (fun i => 0 < nAt n i) := fun i hil hp => by
 show 0 < nAt n (i : Int)
 unfold nAt
 rw [Int.toNat_natCast, fix_val hi.len h hil]
 exact (hc.pos n _ hi.ok).2 hp
theorem counts_pos {c c' : List Int → TypD → Int} (hc : CntOk c) (hc' : CntOk c') (l : List TypD) (i : Int) (h : 0 < nAt (countsA c l) i) : 0 < nAt (countsA c' l) i :=
 (inv_iter hc l _).least (fun i => 0 < nAt (countsA c' l) i) (fun i => by unfold nAt; rw [Int.toNat_natCast]) (fix_closed hc' (inv_iter hc' l _) (counts_fix hc' l)) i h
def soundB (n : List Int) : Bool := n.all fun x => decide (0 < x)
theorem sound_eq {c c' : List Int → TypD → Int} (hc : CntOk c) (hc' : CntOk c') (l : List TypD) : soundB (countsA c l) = soundB (countsA c' l) := by
 have key : ∀ {c c' : List Int → TypD → Int}, CntOk c → CntOk c' → soundB (countsA c l) = true → soundB (countsA c' l) = true := fun {c c'} hc hc' h => by
  unfold soundB at h ⊢
  rw [List.all_eq_true] at h ⊢
  intro x hx
  obtain ⟨j, hj, rfl⟩ := List.getElem_of_mem hx
  have e1 := (inv_iter hc l (2 * l.length + 1)).len
  have e2 := (inv_iter hc' l (2 * l.length + 1)).len
  have hj' : j < (countsA c l).length := by unfold countsA at hj ⊢; omega
  have h1 := of_decide_eq_true (h _ (List.getElem_mem hj'))
  have h2 := counts_pos hc hc' l j (by unfold nAt; rw [Int.toNat_natCast]; simpa [List.getD, hj'] using h1)
  unfold nAt at h2
  rw [Int.toNat_natCast] at h2
  exact decide_eq_true (by simpa [List.getD, hj] using h2)
 rw [Bool.eq_iff_iff]
 exact ⟨key hc hc', key hc' hc⟩
end Go.Proofs.YtjpdemikmdfonaaGreatDoor

namespace Go.Proofs.YtjpdemikmdfonaaGreatDoor
open Go Go.RowKit
set_option linter.unusedVariables false
set_option linter.unusedSimpArgs false
def befE (a b : EdgeD) : Bool := decide (a.frm < b.frm ∨ a.frm = b.frm ∧ (a.send = false ∧ b.send = true ∨ a.send = b.send ∧ a.label < b.label))
def edgeOk (S : Int) (e : EdgeD) : Bool := decide (0 ≤ e.frm ∧ e.frm < S ∧ 0 ≤ e.to ∧ e.to < S ∧ 1 ≤ e.label ∧ e.label ≤ 1000)
def edgeAt (S : Int) (l : List EdgeD) (i : Nat) : Bool := edgeOk S (l.getD i nilEd) && (decide (i = 0) || befE (l.getD (i - 1) nilEd) (l.getD i nilEd))
def edgesOk (S : Int) (l : List EdgeD) : Bool := (List.range l.length).all (edgeAt S l)
def autErr (a : AutD) : Int := if 12 < a.states ∨ 100 < a.edges.length then 3 else if ¬ (0 ≤ a.start ∧ a.start < a.states) then 1 else if edgesOk a.states a.edges then 0 else 1
theorem edgesOk_no {S : Int} {l : List EdgeD} {i : Nat} (hi : i < l.length) (h : edgeAt S l i = false) : edgesOk S l = false := by
 unfold edgesOk
 rw [List.all_eq_false]
 exact ⟨i, List.mem_range.2 hi, by rw [h]; simp⟩
theorem edgesOk_yes {S : Int} {l : List EdgeD} (h : ∀ i, i < l.length → edgeAt S l i = true) : edgesOk S l = true := by
 unfold edgesOk
 rw [List.all_eq_true]
 exact fun i hi => h i (List.mem_range.1 hi)
theorem edgesOk_at {S : Int} {l : List EdgeD} (h : edgesOk S l = true) {i : Nat} (hi : i < l.length) : edgeOk S (l.getD i nilEd) = true := by
 unfold edgesOk at h
 rw [List.all_eq_true] at h
 have := h i (List.mem_range.2 hi)
 unfold edgeAt at this
 rw [Bool.and_eq_true] at this
 exact this.1
structure AutIn (a : AutD) : Prop where
 start : 0 ≤ a.start ∧ a.start < a.states
 most : a.states ≤ 12
 few : a.edges.length ≤ 100
 edges : ∀ i, i < a.edges.length → edgeOk a.states (a.edges.getD i nilEd) = true
theorem autIn_of {a : AutD} (h : autErr a = 0) : AutIn a := by
 unfold autErr at h
 split at h
 ·omega
 ·rename_i h1
  split at h
  ·omega
  ·rename_i h2
   split at h
   ·rename_i h3
    exact ⟨by omega, by omega, by omega, fun i hi => edgesOk_at h3 hi⟩
   ·omega
def stepE (x : Int) (o : List Int) (e : EdgeD) : List Int := if e.frm = x ∧ e.to ∉ o then o ++ [e.to] else o
def scanE (es : List EdgeD) (x : Int) (o : List Int) : List Int := es.foldl (stepE x) o
def ordF (es : List EdgeD) : Nat → Nat → List Int → List Int
 | 0, _, o => o
 | f + 1, i, o => if i < o.length then ordF es f (i + 1) (scanE es (o.getD i 0) o) else o
def ordP (a : AutD) : List Int := ordF a.edges a.states.toNat 0 [a.start]
structure OrdIn (S : Int) (o : List Int) : Prop where
 nd : o.Nodup
 rng : ∀ x ∈ o, 0 ≤ x ∧ x < S
theorem nodup_len : ∀ (S : Nat) (l : List Nat), l.Nodup → (∀ x ∈ l, x < S) → l.length ≤ S
 | 0, l, _, h => by
  cases l with
  | nil => simp
  | cons x r => exact absurd (h x (List.mem_cons_self ..)) (Nat.not_lt_zero x)
 | S + 1, l, hn, h => by
  have h1 : ∀ x ∈ l.erase S, x < S := fun x hx => by
   have h2 := (List.Nodup.mem_erase_iff hn).1 hx
   have := h x h2.2
   omega
  have h2 := nodup_len S (l.erase S) (hn.erase S) h1
  rw [List.length_erase] at h2
  split at h2 <;> omega
theorem OrdIn.len {S : Int} {o : List Int} (h : OrdIn S o) : (o.length : Int) ≤ max S 0 := by
 have h1 := nodup_len S.toNat (o.map Int.toNat) (by
  refine List.pairwise_map.2 (h.nd.imp_of_mem ?_)
  intro a b ha hb hne he
  have h1 := h.rng a ha
  have h2 := h.rng b hb
  exact hne (by omega)) (fun x hx => by
  obtain ⟨y, hy, rfl⟩ := List.mem_map.1 hx
  have := h.rng y hy
  omega)
 rw [List.length_map] at h1
 omega
theorem OrdIn.step {S : Int} {o : List Int} (h : OrdIn S o) {x : Int} {e : EdgeD} (he : edgeOk S e = true) : OrdIn S (stepE x o e) := by
 have he' := of_decide_eq_true he
 unfold stepE
 split
 ·rename_i g
  refine ⟨?_, fun y hy => ?_⟩
  ·refine List.nodup_append.2 ⟨h.nd, by simp, fun a ha b hb hab => ?_⟩
   have e1 := List.mem_singleton.1 hb
   subst e1
   subst hab
   exact g.2 ha
  ·rcases List.mem_append.1 hy with hy | hy
   ·exact h.rng y hy
   ·have e1 := List.mem_singleton.1 hy
    subst e1
    omega
 ·exact h
theorem stepE_pre {x : Int} {o : List Int} {e : EdgeD} : ∃ r, stepE x o e = o ++ r := by
 unfold stepE
 split
 ·exact ⟨_, rfl⟩
 ·exact ⟨[], by simp⟩
def scanN (es : List EdgeD) (x : Int) (o : List Int) (k : Nat) : List Int := (es.take k).foldl (stepE x) o
theorem scanN_next {es : List EdgeD} {x : Int} {o : List Int} {k : Nat} (h : k < es.length) : scanN es x o (k + 1) = stepE x (scanN es x o k) (es.getD k nilEd) := by
 unfold scanN
 rw [List.take_add_one, List.foldl_append]
 simp [List.getD, h]
theorem scanN_all {es : List EdgeD} {x : Int} {o : List Int} : scanN es x o es.length = scanE es x o := by
 unfold scanN scanE; rw [List.take_length]
theorem scanN_pre {es : List EdgeD} {x : Int} {o : List Int} : ∀ k, k ≤ es.length → ∃ r, scanN es x o k = o ++ r
 | 0, _ => ⟨[], by simp [scanN]⟩
 | k + 1, h => by
  obtain ⟨r, hr⟩ := scanN_pre (es := es) (x := x) (o := o) k (by omega)
  obtain ⟨s, hs⟩ := stepE_pre (x := x) (o := scanN es x o k) (e := es.getD k nilEd)
  exact ⟨r ++ s, by rw [scanN_next (by omega), hs, hr, List.append_assoc]⟩
theorem scanN_get {es : List EdgeD} {x : Int} {o : List Int} {k i : Nat} (h : k ≤ es.length) (hi : i < o.length) : i < (scanN es x o k).length ∧ (scanN es x o k).getD i 0 = o.getD i 0 := by
 obtain ⟨r, hr⟩ := scanN_pre (x := x) (o := o) k h
 rw [hr]
 refine ⟨by rw [List.length_append]; omega, ?_⟩
 simp only [List.getD_eq_getElem?_getD]
 rw [List.getElem?_append_left hi]
theorem OrdIn.scan {S : Int} {es : List EdgeD} (he : ∀ i, i < es.length → edgeOk S (es.getD i nilEd) = true) {x : Int} {o : List Int} (h : OrdIn S o) : ∀ k, k ≤ es.length → OrdIn S (scanN es x o k)
 | 0, _ => h
 | k + 1, hk => by
  rw [scanN_next (by omega)]
  exact (OrdIn.scan he h k (by omega)).step (he k (by omega))
theorem ordF_next {a : AutD} {i : Nat} {o : List Int} (hs : AutIn a) (ho : OrdIn a.states o) (hi : i < o.length) : ordF a.edges (a.states.toNat - i) i o = ordF a.edges (a.states.toNat - (i + 1)) (i + 1) (scanE a.edges (o.getD i 0) o) := by
 have := ho.len
 have h1 := hs.start
 have e : a.states.toNat - i = a.states.toNat - (i + 1) + 1 := by omega
 rw [e]
 conv => lhs; unfold ordF
 rw [if_pos hi]
theorem ordF_end {es : List EdgeD} {f i : Nat} {o : List Int} (hi : ¬ i < o.length) : ordF es f i o = o := by
 cases f with
 | zero => rfl
 | succ f => unfold ordF; rw [if_neg hi]
theorem ord_first {a : AutD} (hs : AutIn a) : OrdIn a.states [a.start] := ⟨by simp, fun x hx => by have := List.mem_singleton.1 hx; subst this; exact hs.start⟩
theorem ordF_in {a : AutD} (hs : AutIn a) : ∀ (f i : Nat) (o : List Int), OrdIn a.states o → OrdIn a.states (ordF a.edges f i o)
 | 0, _, _, h => h
 | f + 1, i, o, h => by
  unfold ordF
  split
  ·exact ordF_in hs f _ _ (by rw [← scanN_all]; exact h.scan hs.edges _ (Nat.le_refl _))
  ·exact h
theorem ordP_in {a : AutD} (hs : AutIn a) : OrdIn a.states (ordP a) := ordF_in hs _ _ _ (ord_first hs)
def posI (o : List Int) (x : Int) : Int := if x ∈ o then ((o.idxOf x : Nat) : Int) else -1
theorem posI_neg {o : List Int} {x : Int} : posI o x < 0 ↔ x ∉ o := by
 unfold posI
 split <;> rename_i h
 ·simp [h]
 ·simp [h]
theorem posI_new {o : List Int} {x y : Int} (hx : x ∉ o) : posI (o ++ [x]) y = if y = x then (o.length : Int) else posI o y := by
 unfold posI
 by_cases e : y = x
 ·subst e
  rw [if_pos (by simp), if_pos rfl, List.idxOf_append, if_neg hx]
  simp
 ·rw [if_neg e]
  by_cases hy : y ∈ o
  ·rw [if_pos (by simp [hy]), if_pos hy, List.idxOf_append, if_pos hy]
  ·rw [if_neg (by simp [hy, e]), if_neg hy]
def placeOf (S : Int) (o : List Int) : List Int := (List.range S.toNat).map fun (x : Nat) => posI o (x : Int)
theorem placeOf_len {S : Int} {o : List Int} : (placeOf S o).length = S.toNat := by simp [placeOf]
theorem placeOf_get {S : Int} {o : List Int} {x : Int} (h : 0 ≤ x ∧ x < S) : (placeOf S o).getD x.toNat 0 = posI o x := by
 unfold placeOf
 have h1 : x.toNat < S.toNat := by omega
 simp [List.getD, h1, show max x 0 = x by omega]
theorem placeOf_at {S : Int} {o : List Int} {j : Nat} (h : j < S.toNat) : (placeOf S o)[j]? = some (posI o (j : Int)) := by
 unfold placeOf
 rw [List.getElem?_map, List.getElem?_range h]; rfl
theorem placeOf_set {S : Int} {o : List Int} {x : Int} (h : 0 ≤ x ∧ x < S) (hx : x ∉ o) : (placeOf S o).set x.toNat (o.length : Int) = placeOf S (o ++ [x]) := by
 refine List.ext_getElem? fun j => ?_
 rw [List.getElem?_set, placeOf_len]
 by_cases hj : j < S.toNat
 ·rw [placeOf_at hj, placeOf_at hj, posI_new hx]
  by_cases e : x.toNat = j
  ·rw [if_pos e, if_pos (by omega), if_pos (by omega)]
  ·rw [if_neg e, if_neg (by omega)]
 ·rw [if_neg (by omega), List.getElem?_eq_none (by rw [placeOf_len]; omega), List.getElem?_eq_none (by rw [placeOf_len]; omega)]
theorem placeOf_nil {S : Int} : placeOf S [] = List.replicate S.toNat (-1) := by
 unfold placeOf
 refine List.ext_getElem (by simp) fun j h1 h2 => ?_
 simp [posI]
def trimN (es : List EdgeD) (o : List Int) (k : Nat) : List EdgeD := ((es.take k).filter fun e => decide (e.frm ∈ o)).map fun e => ⟨posI o e.frm, e.send, e.label, posI o e.to⟩
theorem trimN_len {es : List EdgeD} {o : List Int} {k : Nat} : (trimN es o k).length ≤ k := by
 unfold trimN
 rw [List.length_map]
 exact Nat.le_trans (List.length_filter_le _ _) (List.length_take_le _ _)
theorem trimN_yes {es : List EdgeD} {o : List Int} {k : Nat} (h : k < es.length) (hm : (es.getD k nilEd).frm ∈ o) : trimN es o (k + 1) = trimN es o k ++ [⟨posI o (es.getD k nilEd).frm, (es.getD k nilEd).send, (es.getD k nilEd).label, posI o (es.getD k nilEd).to⟩] := by
 unfold trimN
 have e : es.take (k + 1) = es.take k ++ [es.getD k nilEd] := by
  rw [List.take_add_one]; simp [List.getD, h]
 rw [e, List.filter_append, List.map_append]
 simp only [List.filter_cons, hm, decide_true, if_true, List.filter_nil, List.map_cons, List.map_nil]
theorem trimN_no {es : List EdgeD} {o : List Int} {k : Nat} (h : k < es.length) (hm : (es.getD k nilEd).frm ∉ o) : trimN es o (k + 1) = trimN es o k := by
 unfold trimN
 have e : es.take (k + 1) = es.take k ++ [es.getD k nilEd] := by
  rw [List.take_add_one]; simp [List.getD, h]
 rw [e, List.filter_append, List.map_append]
 simp only [List.filter_cons, hm, decide_false, Bool.false_eq_true, if_false, List.filter_nil, List.map_nil, List.append_nil]
def swapE (l : List EdgeD) (k : Nat) : List EdgeD := (l.set (k + 1) (l.getD k nilEd)).set k (l.getD (k + 1) nilEd)
def bubE : Nat → List EdgeD → List EdgeD
 | 0, l => l
 | k + 1, l => if befE (l.getD (k + 1) nilEd) (l.getD k nilEd) = true then bubE k (swapE l k) else l
def sortN (es : List EdgeD) : Nat → List EdgeD
 | 0 => []
 | i + 1 => bubE i (sortN es i ++ [es.getD i nilEd])
theorem swapE_len {l : List EdgeD} {k : Nat} : (swapE l k).length = l.length := by simp [swapE]
theorem bubE_len : ∀ {k : Nat} {l : List EdgeD}, (bubE k l).length = l.length
 | 0, _ => rfl
 | k + 1, l => by
  unfold bubE
  split
  ·rw [bubE_len, swapE_len]
  ·rfl
theorem sortN_len {es : List EdgeD} : ∀ {i : Nat}, (sortN es i).length = i
 | 0 => rfl
 | i + 1 => by
  unfold sortN
  rw [bubE_len, List.length_append, sortN_len]; rfl
end Go.Proofs.YtjpdemikmdfonaaGreatDoor

namespace Go.Proofs.YtjpdemikmdfonaaGreatDoor
open Go Go.RowKit
set_option linter.unusedVariables false
set_option linter.unusedSimpArgs false
def msgAt (l : List MsgD) (id : Int) : Option Nat := l.findIdx? fun x => decide (x.id = id)
def msgQ (l : List MsgD) : List (Int × ByteArray) := l.map fun x => (x.id, x.name)
def sesErr (n : Nat) (x : SesD) : Int :=
 if 16 < x.msgs.length then 3
 else if idsP 0 [] (msgQ x.msgs) = false ∨ isNameP x.name = false then 1
 else if x.msgs.any (fun m => outT n m.typ) = true then 4
 else if ¬ autErr x.auto = 0 then autErr x.auto
 else if x.auto.edges.any (fun e => (msgAt x.msgs e.label).isNone) = true then 4
 else if ((ordP x.auto).length : Int) = x.auto.states then 0 else 1
def soundErr (l : List TypD) : Int :=
 if ¬ schemaErr l = 0 then schemaErr l else if ¬ defErr l = 0 then 1 else if soundB (countsA countR l) = true then 0 else 10
def dupF (f : Nat → ByteArray) (i : Nat) : Bool := (List.range i).any fun k => decide (f k = f i)
theorem dupF_yes {f : Nat → ByteArray} {i k : Nat} (hk : k < i) (h : f k = f i) : dupF f i = true := by
 unfold dupF
 rw [List.any_eq_true]
 exact ⟨k, List.mem_range.2 hk, decide_eq_true h⟩
theorem dupF_no {f : Nat → ByteArray} {i : Nat} (h : ∀ k, k < i → ¬ f k = f i) : dupF f i = false := by
 unfold dupF
 rw [List.any_eq_false]
 intro k hk
 simpa using h k (List.mem_range.1 hk)
def callErr (n : Nat) (l : List CallD) (i : Nat) : Int :=
 if isNameP (l.getD i nilCa).name = false then 1
 else if dupF (fun k => (l.getD k nilCa).name) i = true then 5
 else if outT n (l.getD i nilCa).req = true ∨ outT n (l.getD i nilCa).rep = true then 4 else 0
def topErr (n : Nat) (l : List TopD) (i : Nat) : Int :=
 if isNameP (l.getD i nilTo).name = false then 1
 else if dupF (fun k => (l.getD k nilTo).name) i = true then 5
 else if outT n (l.getD i nilTo).typ = true then 4 else 0
def sessErr (n : Nat) (l : List SesD) (i : Nat) : Int :=
 if dupF (fun k => (l.getD k nilSe).name) i = true then 5
 else sesErr n (l.getD i nilSe)
section
variable {n : Nat} {i k : Nat}
theorem call_1 {l : List CallD} (h : isNameP (l.getD i nilCa).name = false) : callErr n l i = 1 := by unfold callErr; rw [if_pos h]
theorem call_5 {l : List CallD} (h : isNameP (l.getD i nilCa).name = true) (hk : k < i) (he : (l.getD k nilCa).name = (l.getD i nilCa).name) : callErr n l i = 5 := by
 unfold callErr; rw [if_neg (by rw [h]; decide), if_pos (dupF_yes (f := fun k => (l.getD k nilCa).name) hk he)]
theorem call_go {l : List CallD} (h : isNameP (l.getD i nilCa).name = true) (hd : ∀ k, k < i → ¬ (l.getD k nilCa).name = (l.getD i nilCa).name) : callErr n l i = if outT n (l.getD i nilCa).req = true ∨ outT n (l.getD i nilCa).rep = true then 4 else 0 := by
 unfold callErr; rw [if_neg (by rw [h]; decide), if_neg (by rw [dupF_no (f := fun k => (l.getD k nilCa).name) hd]; decide)]
theorem top_1 {l : List TopD} (h : isNameP (l.getD i nilTo).name = false) : topErr n l i = 1 := by unfold topErr; rw [if_pos h]
theorem top_5 {l : List TopD} (h : isNameP (l.getD i nilTo).name = true) (hk : k < i) (he : (l.getD k nilTo).name = (l.getD i nilTo).name) : topErr n l i = 5 := by
 unfold topErr; rw [if_neg (by rw [h]; decide), if_pos (dupF_yes (f := fun k => (l.getD k nilTo).name) hk he)]
theorem top_go {l : List TopD} (h : isNameP (l.getD i nilTo).name = true) (hd : ∀ k, k < i → ¬ (l.getD k nilTo).name = (l.getD i nilTo).name) : topErr n l i = if outT n (l.getD i nilTo).typ = true then 4 else 0 := by
 unfold topErr; rw [if_neg (by rw [h]; decide), if_neg (by rw [dupF_no (f := fun k => (l.getD k nilTo).name) hd]; decide)]
theorem sess_5 {l : List SesD} (hk : k < i) (he : (l.getD k nilSe).name = (l.getD i nilSe).name) : sessErr n l i = 5 := by
 unfold sessErr; rw [if_pos (dupF_yes (f := fun k => (l.getD k nilSe).name) hk he)]
theorem sess_go {l : List SesD} (hd : ∀ k, k < i → ¬ (l.getD k nilSe).name = (l.getD i nilSe).name) : sessErr n l i = sesErr n (l.getD i nilSe) := by
 unfold sessErr; rw [if_neg (by rw [dupF_no (f := fun k => (l.getD k nilSe).name) hd]; decide)]
end
def verErr (v : VerD) : Int :=
 if 8 < v.calls.length ∨ 8 < v.sess.length ∨ 8 < v.tops.length then 3
 else if isNameP v.name = false then 1
 else if ¬ soundErr v.types = 0 then soundErr v.types
 else if ¬ firstE (callErr v.types.length v.calls) v.calls.length = 0 then firstE (callErr v.types.length v.calls) v.calls.length
 else if ¬ firstE (sessErr v.types.length v.sess) v.sess.length = 0 then firstE (sessErr v.types.length v.sess) v.sess.length
 else firstE (topErr v.types.length v.tops) v.tops.length
def verRow (v : VerD) : List D := [.v (.string v.name), .sl 10 (dTyps v.types), .sl 3 (dCalls v.calls), .sl 5 (dSess v.sess), .sl 2 (dTops v.tops)]
end Go.Proofs.YtjpdemikmdfonaaGreatDoor

namespace Go.Proofs.YtjpdemikmdfonaaGreatDoor
open Go Go.RowKit
set_option maxRecDepth 100000
set_option maxHeartbeats 8000000
set_option linter.unusedSimpArgs false
set_option linter.unusedVariables false
structure SrvD where
 name : ByteArray
 vers : List VerD
 now : Int
 tgt : Int
structure LnkD where
 kind : Int
 name : ByteArray
 frm : Int
 tto : Int
 aware : Bool
 cap : Int
def nilVe : VerD := ⟨ByteArray.empty, [], [], [], []⟩
def nilSv : SrvD := ⟨ByteArray.empty, [], 0, 0⟩
def nilLk : LnkD := ⟨0, ByteArray.empty, 0, 0, false, 0⟩
def dVers (l : List VerD) : List (List D) := l.map verRow
def srvRow (x : SrvD) : List D := [.v (.string x.name), .sl 5 (dVers x.vers), .v (.int .i64 x.now), .v (.int .i64 x.tgt)]
def dSrvs (l : List SrvD) : List (List D) := l.map srvRow
def lnkRow (x : LnkD) : List D := [.v (.int .i64 x.kind), .v (.string x.name), .v (.int .i64 x.frm), .v (.int .i64 x.tto), .v (.bool x.aware), .v (.int .i64 x.cap)]
def dLnks (l : List LnkD) : List (List D) := l.map lnkRow
def srvC (x : SrvD) : List C := [.d (.v (.string x.name)), .d (.sl 5 (dVers x.vers)), .d (.v (.int .i64 x.now)), .d (.v (.int .i64 x.tgt))]
def lnkC (x : LnkD) : List C := [.d (.v (.int .i64 x.kind)), .d (.v (.string x.name)), .d (.v (.int .i64 x.frm)), .d (.v (.int .i64 x.tto)), .d (.v (.bool x.aware)), .d (.v (.int .i64 x.cap))]
def fltC (s : List SrvD) (l : List LnkD) : List C := [.d (.sl 4 (dSrvs s)), .d (.sl 6 (dLnks l))]
def sverE (l : List VerD) (i : Nat) : Int := if ¬ verErr (l.getD i nilVe) = 0 then verErr (l.getD i nilVe) else if dupF (fun k => (l.getD k nilVe).name) i = true then 5 else 0
def srvErr (x : SrvD) : Int :=
 if x.vers.length = 0 then 10 else if 6 < x.vers.length then 3
 else if ¬ firstE (sverE x.vers) x.vers.length = 0 then firstE (sverE x.vers) x.vers.length
 else if 0 ≤ x.now ∧ x.now < x.vers.length ∧ 0 ≤ x.tgt ∧ x.tgt < x.vers.length then 0 else 7
def kindB (k : Int) (a : Bool) : Bool := decide (k = 1 ∨ k = 2 ∨ (k = 3 ∨ k = 4) ∧ a = false)
def capB (k c : Int) : Bool := decide (k = 2 ∧ (c < 1 ∨ 3 < c) ∨ ¬ k = 2 ∧ ¬ c = 0)
def lnkErr (n : Nat) (t : LnkD) : Int :=
 if kindB t.kind t.aware = false ∨ isNameP t.name = false then 1
 else if ¬ (0 ≤ t.frm ∧ t.frm < n ∧ 0 ≤ t.tto ∧ t.tto < n) then 4
 else if capB t.kind t.cap = true then 7 else 0
def sameL (x t : LnkD) : Bool := decide (x.kind = t.kind ∧ x.name = t.name ∧ x.frm = t.frm ∧ x.tto = t.tto)
def dupL (l : List LnkD) (i : Nat) : Bool := (List.range i).any fun k => sameL (l.getD k nilLk) (l.getD i nilLk)
def fsrvE (l : List SrvD) (i : Nat) : Int :=
 if isNameP (l.getD i nilSv).name = false then 1
 else if dupF (fun k => (l.getD k nilSv).name) i = true then 5 else srvErr (l.getD i nilSv)
def flnkE (n : Nat) (l : List LnkD) (i : Nat) : Int := if ¬ lnkErr n (l.getD i nilLk) = 0 then lnkErr n (l.getD i nilLk) else if dupL l i = true then 5 else 0
def fltErr (s : List SrvD) (l : List LnkD) : Int :=
 if s.length = 0 then 10 else if 6 < s.length ∨ 12 < l.length then 3
 else if ¬ firstE (fsrvE s) s.length = 0 then firstE (fsrvE s) s.length else firstE (flnkE s.length l) l.length
end Go.Proofs.YtjpdemikmdfonaaGreatDoor

namespace Go.Proofs.YtjpdemikmdfonaaGreatDoor
open Go Go.RowKit
set_option linter.unusedSimpArgs false
theorem gVers {xs : List (VerD)} {n : Int} (h : 0 ≤ n ∧ n < xs.length) : 0 ≤ n ∧ (dVers xs)[n.toNat]? = some (verRow (xs.getD n.toNat nilVe)) := rowsG nilVe h
theorem gVersN {xs : List (VerD)} {k : Nat} (h : k < xs.length) : 0 ≤ (k : Int) ∧ (dVers xs)[(k : Int).toNat]? = some (verRow (xs.getD k nilVe)) := ⟨Int.natCast_nonneg k, rowsN nilVe h⟩
theorem zVers {xs : List (VerD)} {n : Int} (h : 0 ≤ n ∧ n < xs.length) : (dVers xs)[n.toNat]? = some (verRow (xs.getD n.toNat nilVe)) := rowsZ nilVe h
theorem lVers {xs : List (VerD)} : (dVers xs).length = xs.length := List.length_map _
theorem wVers {xs : List (VerD)} {j : Nat} {x : VerD} : (dVers xs).set j (verRow x) = dVers (xs.set j x) := List.map_set.symm
theorem gSrvs {xs : List (SrvD)} {n : Int} (h : 0 ≤ n ∧ n < xs.length) : 0 ≤ n ∧ (dSrvs xs)[n.toNat]? = some (srvRow (xs.getD n.toNat nilSv)) := rowsG nilSv h
theorem gSrvsN {xs : List (SrvD)} {k : Nat} (h : k < xs.length) : 0 ≤ (k : Int) ∧ (dSrvs xs)[(k : Int).toNat]? = some (srvRow (xs.getD k nilSv)) := ⟨Int.natCast_nonneg k, rowsN nilSv h⟩
theorem zSrvs {xs : List (SrvD)} {n : Int} (h : 0 ≤ n ∧ n < xs.length) : (dSrvs xs)[n.toNat]? = some (srvRow (xs.getD n.toNat nilSv)) := rowsZ nilSv h
theorem lSrvs {xs : List (SrvD)} : (dSrvs xs).length = xs.length := List.length_map _
theorem wSrvs {xs : List (SrvD)} {j : Nat} {x : SrvD} : (dSrvs xs).set j (srvRow x) = dSrvs (xs.set j x) := List.map_set.symm
theorem gLnks {xs : List (LnkD)} {n : Int} (h : 0 ≤ n ∧ n < xs.length) : 0 ≤ n ∧ (dLnks xs)[n.toNat]? = some (lnkRow (xs.getD n.toNat nilLk)) := rowsG nilLk h
theorem gLnksN {xs : List (LnkD)} {k : Nat} (h : k < xs.length) : 0 ≤ (k : Int) ∧ (dLnks xs)[(k : Int).toNat]? = some (lnkRow (xs.getD k nilLk)) := ⟨Int.natCast_nonneg k, rowsN nilLk h⟩
theorem zLnks {xs : List (LnkD)} {n : Int} (h : 0 ≤ n ∧ n < xs.length) : (dLnks xs)[n.toNat]? = some (lnkRow (xs.getD n.toNat nilLk)) := rowsZ nilLk h
theorem lLnks {xs : List (LnkD)} : (dLnks xs).length = xs.length := List.length_map _
theorem nLnks {xs : List (LnkD)} {a b : Nat} : ((dLnks xs).drop a).take b = dLnks ((xs.drop a).take b) := by unfold dLnks; rw [List.map_take, List.map_drop]
theorem wLnks {xs : List (LnkD)} {j : Nat} {x : LnkD} : (dLnks xs).set j (lnkRow x) = dLnks (xs.set j x) := List.map_set.symm
end Go.Proofs.YtjpdemikmdfonaaGreatDoor

