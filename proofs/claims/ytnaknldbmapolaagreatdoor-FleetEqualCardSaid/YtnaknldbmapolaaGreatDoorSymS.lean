/-
  Symbolic runs: states are cleaned: slots and boxes that are not needed are dropped, keys are named anew, an empty slice becomes an own one.
-/
import Derived.Test.YtnaknldbmapolaaGreatDoorSym
namespace Go.Proofs.YtnaknldbmapolaaGreatDoor
open Go Go.RowKit
set_option linter.unusedSimpArgs false
set_option linter.unusedVariables false
def renF (φ : List (Key × Key)) (q : Key) : Key := match lk φ q with
  | some k => k
  | none => q
def renAV (f : Key → Key) : AV → AV
  | .one b cs => .one b (cs.map (renC f))
  | .tup xs => .tup (xs.map fun (b, cs) => (b, cs.map (renC f)))
  | .un => .un
  | .dead => .dead
def renB (f : Key → Key) : Box → Box
  | .st ty cs => .st ty (cs.map (renC f))
  | b => b
section
variable {V X : Nat → Prop} {Z : Key → Option Nat} {w0 w : World} {N : Nat} {ρ ρ' : Key → Hd} {ok ok' : Key → Prop} {lt lt' : Nat → Option AV} {lb lb' : Key → Option Box} {a : Act} {S S' : Nat → Prop}
theorem CRel.ren {f : Key → Key} {c : C} {v : Value} (h : CRel S ρ ok w (renC f c) v) (hs : ∀ b, b < w.heap.size → S b → S' b) (hk : ∀ q ∈ keysC c, ok' q) : CRel S' (fun q => ρ (f q)) ok' w c v := by
  cases c with
  | d d => exact Rd.mono h hs
  | zero => exact h
  | own q => exact ⟨hk q (by simp [keysC]), h.2⟩
  | ptr q o => obtain ⟨_, b, h2, h3⟩ := h; exact ⟨hk q (by simp [keysC]), b, h2, h3⟩
  | eptr q i o => obtain ⟨_, b, h2, h3⟩ := h; exact ⟨hk q (by simp [keysC]), b, h2, h3⟩
  | rptr row o =>
    obtain ⟨b, o', cv, h1, h0, h2, h3⟩ := h
    exact ⟨b, o', cv, h1, h0, hs b h0 h2, fun j d hj => ⟨(h3 j d hj).1, (h3 j d hj).2.mono hs⟩⟩
  | arr q n z => obtain ⟨_, b, h2, h3⟩ := h; exact ⟨hk q (by simp [keysC]), b, h2, h3⟩
  | mp q => obtain ⟨_, b, h2, h3⟩ := h; exact ⟨hk q (by simp [keysC]), b, h2, h3⟩
  | fn g caps =>
    obtain ⟨vs, h1, h2⟩ := h
    refine ⟨vs, h1, ?_⟩
    have hk' : ∀ c ∈ caps, ∀ q ∈ capKeys c, ok' q := fun c hc q hq => hk q (List.mem_flatMap.2 ⟨c, hc, hq⟩)
    clear hk h1
    induction caps generalizing vs with
    | nil => cases h2; exact .nil
    | cons c caps ih =>
      rw [List.map_cons] at h2
      cases h2 with
      | cons x y =>
        refine .cons ?_ (ih _ y fun c hc => hk' c (by simp [hc]))
        cases c with
        | d d => exact Rd.mono x hs
        | ptr q o => obtain ⟨_, b, h2, h3⟩ := x; exact ⟨hk' (.ptr q o) (by simp) q (by simp [capKeys]), b, h2, h3⟩
        | rptr row o => exact capdata_keep (c := .rptr row o) (ρ := ρ) (ok := ok) x rfl hs
  | dead => exact h
theorem All2.unmap {R R' : C → Value → Prop} {f : C → C} : ∀ {cs : List C} {vs : List Value}, All2 R (cs.map f) vs → (∀ c v, c ∈ cs → R (f c) v → R' c v) → All2 R' cs vs
  | [], [], _, _ => .nil
  | c :: cs, v :: vs, h, hi => by
    cases h with
    | cons h t => exact .cons (hi c v (by simp) h) (All2.unmap t fun c v hc => hi c v (by simp [hc]))
  | [], _ :: _, h, _ => by cases h
  | _ :: _, [], h, _ => by cases h
theorem One.ren {f : Key → Key} {b : Bool} {cs : List C} {v : Value} (h : One (CRel S ρ ok w) b (cs.map (renC f)) v) (hs : ∀ b, b < w.heap.size → S b → S' b) (hk : ∀ q ∈ cs.flatMap keysC, ok' q) : One (CRel S' (fun q => ρ (f q)) ok' w) b cs v := by
  obtain ⟨vs, h1, h2⟩ := h
  exact ⟨vs, h1.unmap fun c v hc h => h.ren hs fun q hq => hk q (List.mem_flatMap.2 ⟨c, hc, hq⟩), h2⟩
theorem Alls.ren {f : Key → Key} (hs : ∀ b, b < w.heap.size → S b → S' b) : ∀ {xs : List (Bool × List C)} {vs : List Value}, Alls (CRel S ρ ok w) (xs.map fun (b, cs) => (b, cs.map (renC f))) vs → (∀ q ∈ xs.flatMap (fun (_, cs) => cs.flatMap keysC), ok' q) → Alls (CRel S' (fun q => ρ (f q)) ok' w) xs vs
  | [], [], _, _ => .nil
  | (b, cs) :: xs, v :: vs, h, hk => by
    cases h with
    | cons h t => exact .cons (h.ren hs fun q hq => hk q (by simp only [List.flatMap_cons, List.mem_append]; exact .inl hq)) (Alls.ren hs t fun q hq => hk q (by simp only [List.flatMap_cons, List.mem_append]; exact .inr hq))
  | [], _ :: _, h, _ => by cases h
  | _ :: _, [], h, _ => by cases h
theorem AVRel.ren {f : Key → Key} {av : AV} {v : Value} (h : AVRel (CRel S ρ ok w) (renAV f av) v) (hs : ∀ b, b < w.heap.size → S b → S' b) (hk : ∀ q ∈ keysAV av, ok' q) : AVRel (CRel S' (fun q => ρ (f q)) ok' w) av v := by
  cases av with
  | one b cs => exact One.ren h hs hk
  | tup xs => obtain ⟨vs, h1, h2⟩ := h; exact ⟨vs, h1, Alls.ren hs h2 hk⟩
  | un => exact h
  | dead => trivial
theorem BoxRel.ren {f : Key → Key} {q : Key} {box : Box} (h : BoxRel S ρ ok w (f q) (renB f box)) (hs : ∀ b, b < w.heap.size → S b → S' b) (hk : ∀ q ∈ keysB (some box), ok' q) : BoxRel S' (fun q => ρ (f q)) ok' w q box := by
  cases box with
  | st ty cs =>
    obtain ⟨b, vs, h1, h2, h3⟩ := h
    exact ⟨b, vs, h1, h2, h3.unmap fun c v hc h => h.ren hs fun q hq => hk q (by simp only [keysB]; exact List.mem_flatMap.2 ⟨c, hc, hq⟩)⟩
  | sl ty sz rows =>
    obtain ⟨h1, h2, h3, h4, h5, h6⟩ := h
    refine ⟨h1, h2, h3, h4, h5, ?_⟩
    rcases h6 with h6 | ⟨b, vs, sp, k1, k2, k3, k4, k5⟩
    · exact .inl h6
    · exact .inr ⟨b, vs, sp, k1, k2, k3, k4.imp fun c v hc h => by
        obtain ⟨d, _, rfl⟩ := List.mem_map.1 hc
        exact Rd.mono h hs, k5⟩
  | fz sz rows => exact Rd.mono h hs
  | mp es ck => exact h
theorem renB_live (f : Key → Key) (b : Box) : (renB f b).live = b.live := by cases b <;> rfl
/-- All that st' says is said in st, under other names. -/
theorem Sub.of {st st' : St} (φ : List (Key × Key)) (h0 : φ.all (fun x => x.1.2 != 0) = true) (h1 : 0 < st'.nx)
    (ht : ∀ t av, lk st'.tm t = some av → lk st.tm t = some (renAV (renF φ) av) ∧ ∀ q ∈ keysAV av, q.2 < st'.nx)
    (hb : ∀ q box, lk st'.bx q = some box → lk st.bx (renF φ q) = some (renB (renF φ) box) ∧ q.2 < st'.nx ∧ ∀ k ∈ keysB (some box), k.2 < st'.nx)
    (hi : ∀ q q' box box', lk st'.bx q = some box → lk st'.bx q' = some box' → renF φ q = renF φ q' → q = q') : Sub N st st' := by
  intro V X Z w0 a w ⟨ρ, h⟩
  have him : ∀ b, b < w.heap.size → Im V ρ (lk st.bx) b → Im V (fun q => ρ (renF φ q)) (lk st'.bx) b := fun b _ hi' => ⟨hi'.1, fun q box hq hl => hi'.2 _ _ (hb q box hq).1 (by rw [renB_live]; exact hl)⟩
  have hz : ∀ q : Key, q.2 = 0 → renF φ q = q := fun q hq => by
    unfold renF
    have : lk φ q = none := by
      clear ht hb hi him
      induction φ with
      | nil => rfl
      | cons x r ih =>
        obtain ⟨k, v⟩ := x
        simp only [List.all_cons, Bool.and_eq_true, bne_iff_ne] at h0
        show (if q = k then some v else lk r q) = none
        rw [if_neg (fun e => h0.1 (by rw [← e]; exact hq))]
        exact ih h0.2
    rw [this]
  refine ⟨fun q => ρ (renF φ q), h.size, h.defers, fun t av hq => ?_, fun q box hq => ?_, fun q b1 q' b2 b e1 l1 e2 l2 g1 g2 => ?_, fun q box b hq hl hg => ?_, h.fr, h.va, fun q hq => ?_⟩
  · obtain ⟨k1, k2⟩ := ht t av hq
    obtain ⟨k3, k4⟩ := h.tm t _ k1
    exact ⟨k3, k4.ren him k2⟩
  · obtain ⟨k1, k2, k3⟩ := hb q box hq
    exact ⟨k2, (h.bx _ _ k1).2.ren him k3⟩
  · exact hi q q' b1 b2 e1 e2 (h.ap _ _ _ _ b (hb q b1 e1).1 (by rw [renB_live]; exact l1) (hb q' b2 e2).1 (by rw [renB_live]; exact l2) g1 g2)
  · exact h.lo _ _ b (hb q box hq).1 (by rw [renB_live]; exact hl) hg
  · refine ⟨by omega, ?_⟩
    show (ρ (renF φ q)).g = Z q
    rw [hz q hq]
    exact (h.zz q hq).2
end
/-- The same, as a list of equations. -/
def subT (φ : List (Key × Key)) (st : St) (nx : Nat) : List (Nat × AV) → Prop
  | [] => True
  | (t, av) :: r => (lk st.tm t = some (renAV (renF φ) av) ∧ (keysAV av).all (fun q => decide (q.2 < nx)) = true) ∧ subT φ st nx r
def subB (φ : List (Key × Key)) (st : St) (nx : Nat) : List (Key × Box) → Prop
  | [] => True
  | (q, box) :: r => (lk st.bx (renF φ q) = some (renB (renF φ) box) ∧ decide (q.2 < nx) = true ∧ (keysB (some box)).all (fun q => decide (q.2 < nx)) = true) ∧ subB φ st nx r
theorem lk_mem {α β : Type} [DecidableEq α] : ∀ {l : List (α × β)} {k : α} {v : β}, lk l k = some v → (k, v) ∈ l
  | (q, u) :: l, k, v, h => by
    unfold lk at h
    split at h
    · rename_i e; subst e; cases h; simp
    · simp [lk_mem h]
theorem nodup_inj {f : Key → Key} : ∀ {l : List (Key × Box)}, nodup (l.map fun x => f x.1) = true → ∀ q q' b b', (q, b) ∈ l → (q', b') ∈ l → f q = f q' → q = q'
  | x :: l, h, q, q', b, b', h1, h2, he => by
    simp only [List.map_cons, nodup, Bool.and_eq_true, Bool.not_eq_true', List.contains_eq_mem, decide_eq_false_iff_not] at h
    rcases List.mem_cons.1 h1 with rfl | g1
    · rcases List.mem_cons.1 h2 with e | g2
      · cases e; rfl
      · exact absurd (List.mem_map.2 ⟨_, g2, he.symm⟩) h.1
    · rcases List.mem_cons.1 h2 with e | g2
      · subst e; exact absurd (List.mem_map.2 ⟨_, g1, he⟩) h.1
      · exact nodup_inj h.2 q q' b b' g1 g2 he
theorem Sub.by {N : Nat} {st st' : St} (φ : List (Key × Key)) (h0 : φ.all (fun x => x.1.2 != 0) = true) (h1 : 0 < st'.nx) (h2 : nodup (st'.bx.map fun x => renF φ x.1) = true) (hT : subT φ st st'.nx st'.tm) (hB : subB φ st st'.nx st'.bx) : Sub N st st' := by
  have gT : ∀ l, subT φ st st'.nx l → ∀ t av, (t, av) ∈ l → lk st.tm t = some (renAV (renF φ) av) ∧ ∀ q ∈ keysAV av, q.2 < st'.nx := by
    intro l
    induction l with
    | nil => intro _ t av h; cases h
    | cons x r ih =>
      obtain ⟨k, v⟩ := x
      intro h t av hm
      rcases List.mem_cons.1 hm with e | hm
      · cases e; exact ⟨h.1.1, fun q hq => of_decide_eq_true (List.all_eq_true.1 h.1.2 q hq)⟩
      · exact ih h.2 t av hm
  have gB : ∀ l, subB φ st st'.nx l → ∀ q box, (q, box) ∈ l → lk st.bx (renF φ q) = some (renB (renF φ) box) ∧ q.2 < st'.nx ∧ ∀ k ∈ keysB (some box), k.2 < st'.nx := by
    intro l
    induction l with
    | nil => intro _ q box h; cases h
    | cons x r ih =>
      obtain ⟨k, v⟩ := x
      intro h q box hm
      rcases List.mem_cons.1 hm with e | hm
      · cases e; exact ⟨h.1.1, of_decide_eq_true h.1.2.1, fun q hq => of_decide_eq_true (List.all_eq_true.1 h.1.2.2 q hq)⟩
      · exact ih h.2 q box hm
  exact Sub.of φ h0 h1 (fun t av ht => gT _ hT t av (lk_mem ht)) (fun q box hq => gB _ hB q box (lk_mem hq)) (fun q q' b b' e1 e2 e => nodup_inj h2 q q' b b' (lk_mem e1) (lk_mem e2) e)
section
variable {V X : Nat → Prop} {Z : Key → Option Nat} {w0 w : World} {N : Nat} {ρ ρ' : Key → Hd} {ok ok' : Key → Prop} {lt lt' : Nat → Option AV} {lb lb' : Key → Option Box} {a : Act} {S S' : Nat → Prop}
theorem Rel.conv (h : Rel V X Z w0 N ρ ok lt lb a w) (hρ : ∀ q, ok q → ρ' q = ρ q) (hok : ∀ q, ok q → ok' q)
    (hlive : ∀ q box b, lb' q = some box → box.live = true → (ρ' q).g = some b → ∃ box0, lb q = some box0 ∧ box0.live = true ∧ (ρ q).g = some b)
    (hlt : ∀ t av, lt' t = some av → lt t = some av ∨ (t < N ∧ AVRel (CRel (Im V ρ' lb') ρ' ok' w) av (a.tmps.getD t undef)))
    (hlb : ∀ q box, lb' q = some box → lb q = some box ∨ (ok' q ∧ BoxRel (Im V ρ' lb') ρ' ok' w q box)) : Rel V X Z w0 N ρ' ok' lt' lb' a w := by
  have him : ∀ b, b < w.heap.size → Im V ρ lb b → Im V ρ' lb' b := fun b _ hi => ⟨hi.1, fun q box hq hl hg => by
    obtain ⟨box0, k1, k2, k3⟩ := hlive q box b hq hl hg
    exact hi.2 q box0 k1 k2 k3⟩
  refine ⟨h.size, h.defers, fun t av ht => ?_, fun q box hq => ?_, fun q b1 q' b2 b e1 l1 e2 l2 g1 g2 => ?_, fun q box b hq hl hg => ?_, h.fr, h.va, fun q hq => ?_⟩
  · rcases hlt t av ht with h1 | h1
    · obtain ⟨k1, k2⟩ := h.tm t av h1
      exact ⟨k1, k2.imp fun c v hc => hc.keep (Keep.refl _ _) him hρ hok⟩
    · exact h1
  · rcases hlb q box hq with h1 | h1
    · obtain ⟨k1, k2⟩ := h.bx q box h1
      exact ⟨hok q k1, k2.keep (Keep.refl _ _) him hρ hok k1 (fun _ _ _ => rfl)⟩
    · exact h1
  · obtain ⟨x1, k1, k2, k3⟩ := hlive q b1 b e1 l1 g1
    obtain ⟨x2, k4, k5, k6⟩ := hlive q' b2 b e2 l2 g2
    exact h.ap q x1 q' x2 b k1 k2 k4 k5 k3 k6
  · obtain ⟨x1, k1, k2, k3⟩ := hlive q box b hq hl hg
    exact h.lo q x1 b k1 k2 k3
  · obtain ⟨k1, k2⟩ := h.zz q hq
    exact ⟨hok q k1, by rw [hρ q k1]; exact k2⟩
theorem box_nil (S : Nat → Prop) (ok : Key → Prop) (w : World) (k : Key) (ρ : Key → Hd) (A : Option Addr) (ty : TypeId) (sz : Nat) : BoxRel S (updR ρ k ⟨A, none, 0, 0, sz⟩) ok w k (.sl ty sz []) := by
  unfold BoxRel
  rw [updR_same]
  exact ⟨rfl, rfl, Nat.le_refl _, by simp, (fun i row h => by simp at h), .inl ⟨rfl, rfl, rfl⟩⟩
end
/-- An empty slice in a slot becomes an own one. -/
theorem Sub.zeroT {N : Nat} {st : St} (t : Nat) (ty : TypeId) (sz : Nat) (h : lk st.tm t = some (.one false [.zero])) : Sub N st ⟨setT (some t) (.one false [.own (0, st.nx)]) st.tm, ((0, st.nx), .sl ty sz []) :: st.bx, st.nx + 1⟩ := by
  intro V X Z w0 a w ⟨ρ, hR⟩
  obtain ⟨h1, h2⟩ := hR.tm t _ h
  obtain ⟨vs, k1, k2⟩ := h2
  simp only [Bool.false_eq_true, if_false] at k2
  subst k2
  cases k1 with
  | cons hc _ =>
    obtain ⟨A, hA⟩ := hc
    refine ⟨updR ρ (0, st.nx) ⟨A, none, 0, 0, sz⟩, hR.conv (fun q hq => updR_old (ok := fun q => q.2 < st.nx) (by simp) _ q hq) (fun q hq => by simp only at hq ⊢; omega) (fun q box b hq hl hg => ?_) (fun t' av ht' => ?_) (fun q box hq => ?_)⟩
    · by_cases e : q = (0, st.nx)
      · subst e; rw [updR_same] at hg; cases hg
      · have hg' : (ρ q).g = some b := by unfold updR at hg; rw [if_neg e] at hg; exact hg
        have hq' : lk st.bx q = some box := by
          have : lk (((0, st.nx), Box.sl ty sz []) :: st.bx) q = lk st.bx q := by show (if q = (0, st.nx) then _ else lk st.bx q) = _; rw [if_neg e]
          rw [this] at hq; exact hq
        exact ⟨box, hq', hl, hg'⟩
    · by_cases e : t' = t
      · subst e
        right
        have : av = .one false [.own (0, st.nx)] := by
          have : lk (setT (some t') (.one false [.own (0, st.nx)]) st.tm) t' = some (.one false [.own (0, st.nx)]) := by simp [setT, lk]
          rw [this] at ht'; cases ht'; rfl
        subst this
        refine ⟨h1, [a.tmps.getD t' undef], .cons ⟨by simp, ?_⟩ .nil, by simp only [Bool.false_eq_true, if_false]⟩
        rw [updR_same]
        exact hA
      · left
        have : lk (setT (some t) (.one false [.own (0, st.nx)]) st.tm) t' = lk st.tm t' := by
          simp only [setT]
          show (if t' = t then _ else lk _ t') = _
          rw [if_neg e]
          exact lk_filter st.tm t t' e
        rw [this] at ht'; exact ht'
    · by_cases e : q = (0, st.nx)
      · subst e
        right
        have : box = .sl ty sz [] := by simp [lk] at hq; exact hq.symm
        subst this
        exact ⟨by simp, box_nil _ _ _ _ _ _ _ _⟩
      · left
        have : lk (((0, st.nx), Box.sl ty sz []) :: st.bx) q = lk st.bx q := by show (if q = (0, st.nx) then _ else lk st.bx q) = _; rw [if_neg e]
        rw [this] at hq; exact hq
theorem All2.setv {R R' : C → Value → Prop} {c' : C} {v : Value} : ∀ {cs : List C} {vs : List Value} {j : Nat}, All2 R cs vs → (∀ c v, R c v → R' c v) → vs[j]? = some v → R' c' v → All2 R' (cs.set j c') vs
  | _, _, j, .nil, _, h, _ => by simp at h
  | _, _, 0, .cons h t, hi, hv, hc => by
    simp at hv
    subst hv
    exact .cons hc (t.imp fun c v _ => hi c v)
  | _, _, j + 1, .cons h t, hi, hv, hc => .cons (hi _ _ h) (All2.setv t hi (by simpa using hv) hc)
/-- An empty slice in an own variable becomes an own one. -/
theorem Sub.zeroB {N : Nat} {st : St} (q0 : Key) {ty0 : TypeId} {cs : List C} (j : Nat) (ty : TypeId) (sz : Nat) (h : lk st.bx q0 = some (.st ty0 cs)) (hj : cs[j]? = some .zero) :
    Sub N st ⟨st.tm, ((0, st.nx), .sl ty sz []) :: (q0, .st ty0 (cs.set j (.own (0, st.nx)))) :: st.bx.filter (·.1 != q0), st.nx + 1⟩ := by
  intro V X Z w0 a w ⟨ρ, hR⟩
  obtain ⟨h1, b0, vs, h2, h3, h4⟩ := hR.bx q0 _ h
  obtain ⟨v, hv, A, rfl⟩ := h4.get hj
  have hne : q0 ≠ (0, st.nx) := fun e => by rw [e] at h1; simp at h1
  have hlk : ∀ q, lk (((0, st.nx), Box.sl ty sz []) :: (q0, .st ty0 (cs.set j (.own (0, st.nx)))) :: st.bx.filter (·.1 != q0)) q = if q = (0, st.nx) then some (Box.sl ty sz []) else if q = q0 then some (.st ty0 (cs.set j (.own (0, st.nx)))) else lk st.bx q := fun q => by
    show (if q = (0, st.nx) then _ else if q = q0 then _ else lk _ q) = _
    rw [lk_filterK]
    split
    · rfl
    · split
      · rfl
      · rfl
  have hρ : ∀ q : Key, q.2 < st.nx → updR ρ (0, st.nx) ⟨A, none, 0, 0, sz⟩ q = ρ q := fun q hq => updR_old (ok := fun q => q.2 < st.nx) (by simp) _ q hq
  have hlive : ∀ (q : Key) (box : Box) (b : Nat), lk (((0, st.nx), Box.sl ty sz []) :: (q0, .st ty0 (cs.set j (.own (0, st.nx)))) :: st.bx.filter (·.1 != q0)) q = some box → box.live = true → (updR ρ (0, st.nx) ⟨A, none, 0, 0, sz⟩ q).g = some b → ∃ box0, lk st.bx q = some box0 ∧ box0.live = true ∧ (ρ q).g = some b := fun q box b hq hl hg => by
    rw [hlk] at hq
    by_cases e : q = (0, st.nx)
    · subst e; rw [updR_same] at hg; cases hg
    · have hg' : (ρ q).g = some b := by unfold updR at hg; rw [if_neg e] at hg; exact hg
      rw [if_neg e] at hq
      by_cases e2 : q = q0
      · subst e2; exact ⟨_, h, rfl, hg'⟩
      · rw [if_neg e2] at hq; exact ⟨box, hq, hl, hg'⟩
  refine ⟨updR ρ (0, st.nx) ⟨A, none, 0, 0, sz⟩, hR.conv hρ (fun q hq => by simp only at hq ⊢; omega) hlive (fun t av ht => .inl ht) (fun q box hq => ?_)⟩
  have hq' := hq
  rw [hlk] at hq'
  by_cases e : q = (0, st.nx)
  · subst e
    rw [if_pos rfl] at hq'
    cases hq'
    exact .inr ⟨by simp, box_nil _ _ _ _ _ _ _ _⟩
  · rw [if_neg e] at hq'
    by_cases e2 : q = q0
    · subst e2
      rw [if_pos rfl] at hq'
      cases hq'
      refine .inr ⟨by simp only at h1 ⊢; omega, b0, vs, by rw [hρ q h1]; exact h2, h3, ?_⟩
      refine h4.setv (fun c v hc => hc.keep (Keep.refl _ _) (fun b _ hi => ⟨hi.1, fun q box hq hl hg => ?_⟩) hρ (fun q hq => by simp only at hq ⊢; omega)) hv ⟨by simp, by rw [updR_same]⟩
      obtain ⟨x, k1, k2, k3⟩ := hlive q box b hq hl hg
      exact hi.2 q x k1 k2 k3
    · rw [if_neg e2] at hq'
      exact .inl hq'
end Go.Proofs.YtnaknldbmapolaaGreatDoor
