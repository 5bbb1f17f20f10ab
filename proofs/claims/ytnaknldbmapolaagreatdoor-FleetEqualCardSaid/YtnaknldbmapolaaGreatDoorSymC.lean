/-
  Symbolic runs: states are cleaned, with cells that become data (an empty slice, a slice that is shut).
-/
import Derived.Test.YtnaknldbmapolaaGreatDoorSymR
namespace Go.Proofs.YtnaknldbmapolaaGreatDoor
open Go Go.RowKit
set_option linter.unusedSimpArgs false
set_option linter.unusedVariables false
/-- The cell 'old' holds what 'new' says. -/
def cellTo (lb : Key → Option Box) (f : Key → Key) (new old : C) : Prop := old = renC f new ∨ (old = .zero ∧ ∃ sz, new = .d (.sl sz [])) ∨ ∃ q sz rows, old = .own q ∧ lb q = some (.fz sz rows) ∧ new = .d (.sl sz rows)
def cellsTo (lb : Key → Option Box) (f : Key → Key) : List C → List C → Prop
  | [], [] => True
  | c :: cs, d :: ds => cellTo lb f c d ∧ cellsTo lb f cs ds
  | _, _ => False
def avTo (lb : Key → Option Box) (f : Key → Key) : AV → AV → Prop
  | .one b cs, .one b' cs' => b = b' ∧ cellsTo lb f cs cs'
  | .dead, _ => True
  | a, b => b = renAV f a
def boxTo (lb : Key → Option Box) (f : Key → Key) : Box → Box → Prop
  | .st ty cs, .st ty' cs' => ty = ty' ∧ cellsTo lb f cs cs'
  | a, b => b = a
section
variable {V X : Nat → Prop} {Z : Key → Option Nat} {w0 w : World} {N : Nat} {ρ : Key → Hd} {ok ok' : Key → Prop} {lt : Nat → Option AV} {lb : Key → Option Box} {a : Act} {S' : Nat → Prop} {f : Key → Key}
theorem CRel.to (h : Rel V X Z w0 N ρ ok lt lb a w) (hs : ∀ b, b < w.heap.size → Im V ρ lb b → S' b) {c d : C} {v : Value} (hc : CRel (Im V ρ lb) ρ ok w d v) (ht : cellTo lb f c d) (hk : ∀ q ∈ keysC c, ok' q) : CRel S' (fun q => ρ (f q)) ok' w c v := by
  rcases ht with rfl | ⟨rfl, sz, rfl⟩ | ⟨q, sz, rows, rfl, hq, rfl⟩
  · exact hc.ren hs hk
  · obtain ⟨A, rfl⟩ := hc
    exact Rd.sl (rows := []) (A := A) (c := 0) (b := 0) (o := 0) (cv := fun _ _ => undef) (by simp) (by simp) (fun h => absurd rfl h) (fun i row h => by simp at h) (fun i row j d h => by simp at h) (fun i row j d h => by simp at h)
  · obtain ⟨_, rfl⟩ := hc
    exact Rd.mono (h.bx q _ hq).2 hs
theorem All2.to (h : Rel V X Z w0 N ρ ok lt lb a w) (hs : ∀ b, b < w.heap.size → Im V ρ lb b → S' b) : ∀ {cs ds : List C} {vs : List Value}, All2 (CRel (Im V ρ lb) ρ ok w) ds vs → cellsTo lb f cs ds → (∀ q ∈ cs.flatMap keysC, ok' q) → All2 (CRel S' (fun q => ρ (f q)) ok' w) cs vs
  | [], [], [], _, _, _ => .nil
  | c :: cs, d :: ds, v :: vs, hA, ht, hk => by
    cases hA with
    | cons h1 h2 => exact .cons (CRel.to h hs h1 ht.1 fun q hq => hk q (by simp only [List.flatMap_cons, List.mem_append]; exact .inl hq)) (All2.to h hs h2 ht.2 fun q hq => hk q (by simp only [List.flatMap_cons, List.mem_append]; exact .inr hq))
  | [], [], _ :: _, hA, _, _ => by cases hA
  | [], _ :: _, _, _, ht, _ => ht.elim
  | _ :: _, [], _, _, ht, _ => ht.elim
  | _ :: _, _ :: _, [], hA, _, _ => by cases hA
theorem AVRel.to (h : Rel V X Z w0 N ρ ok lt lb a w) (hs : ∀ b, b < w.heap.size → Im V ρ lb b → S' b) {av bv : AV} {v : Value} (hA : AVRel (CRel (Im V ρ lb) ρ ok w) bv v) (ht : avTo lb f av bv) (hk : ∀ q ∈ keysAV av, ok' q) : AVRel (CRel S' (fun q => ρ (f q)) ok' w) av v := by
  cases av with
  | one b cs =>
    cases bv with
    | one b' cs' =>
      obtain ⟨rfl, h2⟩ := ht
      obtain ⟨vs, k1, k2⟩ := hA
      exact ⟨vs, All2.to h hs k1 h2 hk, k2⟩
    | tup xs => cases ht
    | un => cases ht
    | dead => cases ht
  | tup xs => have e : bv = renAV f (.tup xs) := by cases bv <;> exact ht
              subst e; exact AVRel.ren hA hs hk
  | un => have e : bv = renAV f .un := by cases bv <;> exact ht
          subst e; exact AVRel.ren (f := f) hA hs hk
  | dead => trivial
theorem boxTo_live {x y : Box} (ht : boxTo lb f x y) : y.live = x.live := by
  cases x with
  | st ty cs => cases y with
    | st ty' cs' => rfl
    | sl _ _ _ => cases ht
    | fz _ _ => cases ht
    | mp _ _ => cases ht
  | sl ty sz rows => have e : y = .sl ty sz rows := by cases y <;> exact ht
                     rw [e]
  | fz sz rows => have e : y = .fz sz rows := by cases y <;> exact ht
                  rw [e]
  | mp es ck => have e : y = .mp es ck := by cases y <;> exact ht
                rw [e]
theorem BoxRel.to (h : Rel V X Z w0 N ρ ok lt lb a w) (hs : ∀ b, b < w.heap.size → Im V ρ lb b → S' b) {q : Key} {x y : Box} (hB : BoxRel (Im V ρ lb) ρ ok w (f q) y) (ht : boxTo lb f x y) (hk : ∀ q ∈ keysB (some x), ok' q) : BoxRel S' (fun q => ρ (f q)) ok' w q x := by
  cases x with
  | st ty cs => cases y with
    | st ty' cs' =>
      obtain ⟨rfl, h2⟩ := ht
      obtain ⟨b, vs, k1, k2, k3⟩ := hB
      exact ⟨b, vs, k1, k2, All2.to h hs k3 h2 (by simpa only [keysB] using hk)⟩
    | sl _ _ _ => cases ht
    | fz _ _ => cases ht
    | mp _ _ => cases ht
  | sl ty sz rows => have e : y = .sl ty sz rows := by cases y <;> exact ht
                     subst e; exact BoxRel.ren (f := f) (box := .sl ty sz rows) hB hs hk
  | fz sz rows => have e : y = .fz sz rows := by cases y <;> exact ht
                  subst e; exact BoxRel.ren (f := f) (box := .fz sz rows) hB hs hk
  | mp es ck => have e : y = .mp es ck := by cases y <;> exact ht
                subst e; exact BoxRel.ren (f := f) (box := .mp es ck) hB hs hk
end
def toT (φ : List (Key × Key)) (st : St) (nx : Nat) : List (Nat × AV) → Prop
  | [] => True
  | (t, av) :: r => (∃ bv, lk st.tm t = some bv ∧ avTo (lk st.bx) (renF φ) av bv) ∧ (keysAV av).all (fun q => decide (q.2 < nx)) = true ∧ toT φ st nx r
def toB (φ : List (Key × Key)) (st : St) (nx : Nat) : List (Key × Box) → Prop
  | [] => True
  | (q, box) :: r => (∃ y, lk st.bx (renF φ q) = some y ∧ boxTo (lk st.bx) (renF φ) box y) ∧ decide (q.2 < nx) = true ∧ (keysB (some box)).all (fun q => decide (q.2 < nx)) = true ∧ toB φ st nx r
theorem Sub.to {N : Nat} {st st' : St} (φ : List (Key × Key)) (h0 : φ.all (fun x => x.1.2 != 0) = true) (h1 : decide (0 < st'.nx) = true) (h2 : nodup (st'.bx.map fun x => renF φ x.1) = true) (hT : toT φ st st'.nx st'.tm) (hB : toB φ st st'.nx st'.bx) : Sub N st st' := by
  have gT : ∀ l, toT φ st st'.nx l → ∀ t av, (t, av) ∈ l → (∃ bv, lk st.tm t = some bv ∧ avTo (lk st.bx) (renF φ) av bv) ∧ ∀ q ∈ keysAV av, q.2 < st'.nx := by
    intro l
    induction l with
    | nil => intro _ t av h; cases h
    | cons x r ih =>
      obtain ⟨k, v⟩ := x
      intro h t av hm
      rcases List.mem_cons.1 hm with e | hm
      · cases e; exact ⟨h.1, fun q hq => of_decide_eq_true (List.all_eq_true.1 h.2.1 q hq)⟩
      · exact ih h.2.2 t av hm
  have gB : ∀ l, toB φ st st'.nx l → ∀ q box, (q, box) ∈ l → (∃ y, lk st.bx (renF φ q) = some y ∧ boxTo (lk st.bx) (renF φ) box y) ∧ q.2 < st'.nx ∧ ∀ k ∈ keysB (some box), k.2 < st'.nx := by
    intro l
    induction l with
    | nil => intro _ q box h; cases h
    | cons x r ih =>
      obtain ⟨k, v⟩ := x
      intro h q box hm
      rcases List.mem_cons.1 hm with e | hm
      · cases e; exact ⟨h.1, of_decide_eq_true h.2.1, fun q hq => of_decide_eq_true (List.all_eq_true.1 h.2.2.1 q hq)⟩
      · exact ih h.2.2.2 q box hm
  have ht := fun t av (ht : lk st'.tm t = some av) => gT _ hT t av (lk_mem ht)
  have hb := fun q box (hq : lk st'.bx q = some box) => gB _ hB q box (lk_mem hq)
  have hi := fun q q' b b' (e1 : lk st'.bx q = some b) (e2 : lk st'.bx q' = some b') e => nodup_inj h2 q q' b b' (lk_mem e1) (lk_mem e2) e
  have h1' := of_decide_eq_true h1
  intro V X Z w0 a w ⟨ρ, h⟩
  have him : ∀ b, b < w.heap.size → Im V ρ (lk st.bx) b → Im V (fun q => ρ (renF φ q)) (lk st'.bx) b := fun b _ hi' => ⟨hi'.1, fun q box hq hl => by
    obtain ⟨⟨y, k1, k2⟩, _⟩ := hb q box hq
    exact hi'.2 _ _ k1 (by rw [boxTo_live k2]; exact hl)⟩
  have hz : ∀ q : Key, q.2 = 0 → renF φ q = q := fun q hq => by
    unfold renF
    have : lk φ q = none := by
      clear ht hb hi him gT gB hT hB h2
      induction φ with
      | nil => rfl
      | cons x r ih =>
        obtain ⟨k, v⟩ := x
        simp only [List.all_cons, Bool.and_eq_true, bne_iff_ne] at h0
        show (if q = k then some v else lk r q) = none
        rw [if_neg (fun e => h0.1 (by rw [← e]; exact hq))]
        exact ih h0.2
    rw [this]
  refine ⟨fun q => ρ (renF φ q), h.size, h.defers, fun t av hq => ?_, fun q box hq => ?_, fun q b1 q' b2 b e1 l1 e2 l2 g1 g2 => ?_, fun q box b hq hl hg => ?_, h.fr, h.va, fun q hq => ?_⟩
  · obtain ⟨⟨bv, k0, k1⟩, k2⟩ := ht t av hq
    obtain ⟨k3, k4⟩ := h.tm t _ k0
    exact ⟨k3, AVRel.to h him k4 k1 k2⟩
  · obtain ⟨⟨y, k0, k1⟩, k2, k3⟩ := hb q box hq
    exact ⟨k2, BoxRel.to h him (h.bx _ _ k0).2 k1 k3⟩
  · obtain ⟨⟨y1, k0, k1⟩, _⟩ := hb q b1 e1
    obtain ⟨⟨y2, m0, m1⟩, _⟩ := hb q' b2 e2
    exact hi q q' b1 b2 e1 e2 (h.ap _ _ _ _ b k0 (by rw [boxTo_live k1]; exact l1) m0 (by rw [boxTo_live m1]; exact l2) g1 g2)
  · obtain ⟨⟨y1, k0, k1⟩, _⟩ := hb q box hq
    exact h.lo _ _ b k0 (by rw [boxTo_live k1]; exact hl) hg
  · refine ⟨by omega, ?_⟩
    show (ρ (renF φ q)).g = Z q
    rw [hz q hq]
    exact (h.zz q hq).2
end Go.Proofs.YtnaknldbmapolaaGreatDoor
