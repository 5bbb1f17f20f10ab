/-
  The abstract machine is right: literals, slices that are made, stores, append.
-/
import Derived.Test.YtnaknldbmapolaaGreatDoorAbsO
import Derived.Great.BuildSlice
namespace Go.Proofs.YtnaknldbmapolaaGreatDoor
open Go Go.RowKit
set_option linter.unusedSimpArgs false
set_option linter.unusedVariables false
theorem set_fold (off : Nat) : ∀ (us : List Value) (k : Nat) (vs : List Value), off + k + us.length ≤ vs.length →
    (us.zipIdx k).foldl (fun (cs : Array Value) (p : Value × Nat) => cs.setIfInBounds (off + p.2) p.1) vs.toArray = (vs.take (off + k) ++ (us ++ vs.drop (off + k + us.length))).toArray
  | [], k, vs, h => by simp
  | u :: us, k, vs, h => by
    simp only [List.zipIdx_cons, List.foldl_cons]
    simp only [List.length_cons] at h
    have e1 : vs.toArray.setIfInBounds (off + k) u = (vs.set (off + k) u).toArray := by simp
    rw [e1, set_fold off us (k + 1) (vs.set (off + k) u) (by simp; omega)]
    congr 1
    apply List.ext_getElem?
    intro i
    simp only [List.getElem?_append, List.length_take, List.length_set, List.length_cons, List.length_append, List.length_drop, List.getElem?_take, List.getElem?_drop, List.getElem?_set, List.getElem?_cons]
    grind
section
variable {R : C → Value → Prop}
/-- Parts, and their values. -/
inductive Parts (R : C → Value → Prop) : List (Nat × List C) → List (Nat × Value) → Prop
  | nil : Parts R [] []
  | cons {i : Nat} {cs : List C} {v : Value} {us : List Value} {ps : List (Nat × List C)} {vs : List (Nat × Value)} (h : All2 R cs us) (hv : v.cells = us.toArray) (t : Parts R ps vs) : Parts R ((i, cs) :: ps) ((i, v) :: vs)
theorem afill_sound (place : Nat → Option (Nat × Nat)) : ∀ {ps : List (Nat × List C)} {vps : List (Nat × Value)} {cs cs' : List C} {vs : List Value}, Parts R ps vps → afill place cs ps = some cs' → All2 R cs vs →
    ∃ vs', Instr.fill place vs.toArray vps = some vs'.toArray ∧ All2 R cs' vs'
  | [], _, cs, cs', vs, .nil, h, hA => by simp [afill] at h; subst h; exact ⟨vs, rfl, hA⟩
  | (i, xs) :: ps, _, cs, cs', vs, .cons (v := v) (us := us) (vs := vps) hx hv ht, h, hA => by
    unfold afill at h
    split at h
    · cases h
    · rename_i off size hp
      split at h
      · rename_i hc
        have l1 := hx.length
        have l2 := hA.length
        have hA' := (hA.take off).append (hx.append (hA.drop (off + xs.length)))
        obtain ⟨vs', h1, h2⟩ := afill_sound place ht h hA'
        refine ⟨vs', ?_, h2⟩
        unfold Instr.fill
        simp only [hp]
        have e1 : v.cells.size = us.length := by rw [hv]; simp
        rw [if_neg (by simp [e1]; omega)]
        have e2 : Array.foldl (fun (cs : Array Value) (x : Value × Nat) => cs.setIfInBounds (off + x.2) x.1) vs.toArray v.cells.zipIdx = (vs.take off ++ (us ++ vs.drop (off + xs.length))).toArray := by
          rw [hv, l1]
          have := set_fold off us 0 vs (by omega)
          simp only [Nat.add_zero] at this
          rw [← this]
          simp
        rw [← h1, ← e2]
      · cases h
end
section
variable {V X : Nat → Prop} {Z : Key → Option Nat} {w0 w : World} {N : Nat} {ρ : Key → Hd} {ok ok' : Key → Prop} {lt lt' : Nat → Option AV} {lb lb' : Key → Option Box} {a : Act} {P : Program} {o : Oper} {e : Eff} {Q : Exit → Act → World → Prop}
theorem evParts_sound (h : Rel V X Z w0 N ρ ok lt lb a w) (hl : ∀ t x, lt' t = some x → lt t = some x) : ∀ {parts : List (Nat × Operand)} {ps : List (Nat × List C)}, evParts lt' parts = some ps → Parts (CRel (Im V ρ lb) ρ ok w) ps (parts.map fun (i, x) => (i, a.eval x))
  | [], ps, he => by simp [evParts] at he; subst he; exact .nil
  | (i, x) :: rest, ps, he => by
    unfold evParts at he
    cases h1 : ev lt' x with
    | none => simp [h1] at he
    | some av =>
      cases h2 : cellsOfAV av with
      | none => simp [h1, h2] at he
      | some cs =>
        cases h3 : evParts lt' rest with
        | none => simp [h1, h2, h3] at he
        | some r =>
          simp [h1, h2, h3] at he
          subst he
          obtain ⟨vs, k1, k2, k3⟩ := cellsOfAV_sound h2 (ev_sound h hl h1)
          exact .cons k1 k2 (evParts_sound h hl h3)
theorem aBuilt_sound {R : C → Value → Prop} (hC : ∀ (vs : List Value) (cs : List C), vs.mapM cellC = some cs → All2 R cs vs) {t : TypeId} {ps : List (Nat × List C)} {vps : List (Nat × Value)} {cs : List C} (hp : Parts R ps vps) (he : aBuilt P t ps = some cs) : ∃ vs, P.built t vps = some (List.toArray vs) ∧ All2 R cs vs := by
  unfold aBuilt at he
  cases hi : P.info? t with
  | none => simp [hi] at he
  | some it =>
    cases hu : P.underlying t with
    | none => simp [hi, hu] at he
    | some ud =>
      cases hz : it.zero with
      | none => cases ud <;> simp [hi, hu, hz] at he
      | some z =>
        cases ud <;> simp only [hi, hu, hz] at he <;> try (cases he; done)
        case array n el =>
          cases hie : P.info? el with
          | none => simp only [hie] at he; cases he
          | some ie =>
            simp only [hie] at he
            obtain ⟨zs, hm, he⟩ := Option.bind_eq_some_iff.1 he
            obtain ⟨vs, h1, h2⟩ := afill_sound _ hp he (hC _ _ hm)
            exact ⟨vs, by simpa [Program.built, hi, hu, hz, hie] using h1, h2⟩
        case struct fields =>
          cases hf : fields.toList.mapM (fun f => (P.info? f.type).map fun i => (f.offset, i.size)) with
          | none => simp only [hf] at he; cases he
          | some places =>
            simp only [hf] at he
            obtain ⟨zs, hm, he⟩ := Option.bind_eq_some_iff.1 he
            obtain ⟨vs, h1, h2⟩ := afill_sound _ hp he (hC _ _ hm)
            refine ⟨vs, ?_, h2⟩
            unfold Program.built
            simp only [hi, hu, hz, hf]
            simpa using h1
/-- Cells that become data. -/
theorem toD_sound (h : Rel V X Z w0 N ρ ok lt lb a w) (hb : ∀ t x, lb' t = some x → lb t = some x) {S' : Nat → Prop} (hs : ∀ b, b < w.heap.size → Im V ρ lb b → S' b) {c : C} {v : Value} {d : D} {ks : List Key} (he : toD lb' c = some (d, ks)) (hS : ∀ q box b, q ∈ ks → lb' q = some box → (ρ q).g = some b → S' b)
    (hv : CRel (Im V ρ lb) ρ ok w c v) : Rd S' w d v := by
  cases c with
  | d d' => simp [toD] at he; obtain ⟨rfl, rfl⟩ := he; exact Rd.mono hv hs
  | zero =>
    simp [toD] at he
    obtain ⟨rfl, rfl⟩ := he
    obtain ⟨A, rfl⟩ := hv
    exact .sl (rows := []) (b := 0) (o := 0) (cv := fun _ _ => undef) (by simp) (by simp) (fun h => absurd rfl h) (by simp) (by simp) (by simp)
  | own q =>
    simp only [toD] at he
    split at he
    · rename_i sz rows hq
      cases he
      obtain ⟨_, rfl⟩ := hv
      have := (h.bx q _ (hb _ _ hq)).2
      exact Rd.mono this hs
    · rename_i ty sz rows hq
      cases he
      obtain ⟨_, rfl⟩ := hv
      obtain ⟨h1, h2, h3, h4, h5, h6⟩ := (h.bx q _ (hb _ _ hq)).2
      rw [h1]
      rcases h6 with ⟨_, rfl, h7⟩ | ⟨b, vs, sp, g1, g2, g3, g4, g5⟩
      · exact .sl (rows := []) (b := 0) (o := 0) (cv := fun _ _ => undef) (by simp) (by simp) (fun h => absurd rfl h) (by simp) (by simp) (by simp)
      · have hlen := g4.length
        have hget : ∀ (i : Nat) (row : List D) (j : Nat) (d : D), rows[i]? = some row → row[j]? = some d → ∃ u, vs[i * sz + j]? = some u ∧ Rd (Im V ρ lb) w d u := by
          intro i row j d hi hj
          have hjl : j < sz := by
            have := h5 i row hi
            rcases Nat.lt_or_ge j row.length with h | h
            · omega
            · rw [List.getElem?_eq_none h] at hj; cases hj
          have := mk_flat h5 hi hjl
          exact g4.get (c := C.d d) (by rw [List.getElem?_map, this, hj]; rfl)
        refine .sl (b := b) (o := 0) (cv := fun i j => (vs[i * sz + j]?).getD undef) h3 h4 (fun _ => ⟨g2, g3.lt, hS q _ b (by simp) hq g1⟩) h5 (fun i row j d hi hj => ?_) (fun i row j d hi hj => ?_)
        · obtain ⟨u, k1, k2⟩ := hget i row j d hi hj
          have : i * sz + j < vs.length := by
            rcases Nat.lt_or_ge (i * sz + j) vs.length with h | h
            · exact h
            · rw [List.getElem?_eq_none h] at k1; cases k1
          rw [g3.cell, Nat.zero_add]
          simp [List.getElem?_append_left this, k1]
        · obtain ⟨u, k1, k2⟩ := hget i row j d hi hj
          simp only [k1, Option.getD_some]
          exact Rd.mono k2 hs
    · cases he
  | ptr => simp [toD] at he
  | eptr => simp [toD] at he
  | rptr => simp [toD] at he
  | arr => simp [toD] at he
  | mp => simp [toD] at he
  | fn => simp [toD] at he
  | dead => simp [toD] at he
theorem toDs_sound (h : Rel V X Z w0 N ρ ok lt lb a w) (hb : ∀ t x, lb' t = some x → lb t = some x) {S' : Nat → Prop} (hs : ∀ b, b < w.heap.size → Im V ρ lb b → S' b) : ∀ {cs : List C} {vs : List Value} {ds : List D} {ks : List Key}, toDs lb' cs = some (ds, ks) →
    (∀ q box b, q ∈ ks → lb' q = some box → (ρ q).g = some b → S' b) → All2 (CRel (Im V ρ lb) ρ ok w) cs vs → All2 (CRel S' ρ ok w) (ds.map .d) vs
  | [], vs, ds, ks, he, hS, hA => by simp [toDs] at he; obtain ⟨rfl, rfl⟩ := he; cases hA; exact .nil
  | c :: cs, vs, ds, ks, he, hS, hA => by
    unfold toDs at he
    cases h1 : toD lb' c with
    | none => simp [h1] at he
    | some p =>
      cases h2 : toDs lb' cs with
      | none => simp [h1, h2] at he
      | some r =>
        obtain ⟨d, k1⟩ := p
        obtain ⟨ds', k2⟩ := r
        simp [h1, h2] at he
        obtain ⟨rfl, rfl⟩ := he
        cases hA with
        | cons x y => exact .cons (toD_sound h hb hs h1 (fun q box b hq => hS q box b (by simp [hq])) x) (toDs_sound h hb hs h2 (fun q box b hq => hS q box b (by simp [hq])) y)
theorem toDs_len {lb' : Key → Option Box} : ∀ {cs : List C} {ds : List D} {ks : List Key}, toDs lb' cs = some (ds, ks) → ds.length = cs.length
  | [], ds, ks, he => by simp [toDs] at he; obtain ⟨rfl, rfl⟩ := he; rfl
  | c :: cs, ds, ks, he => by
    unfold toDs at he
    cases h1 : toD lb' c with
    | none => simp [h1] at he
    | some p =>
      cases h2 : toDs lb' cs with
      | none => simp [h1, h2] at he
      | some r =>
        obtain ⟨d, k1⟩ := p
        obtain ⟨ds', k2⟩ := r
        simp [h1, h2] at he
        obtain ⟨rfl, rfl⟩ := he
        simp [toDs_len h2]
end
theorem chunks_flat (sz : Nat) : ∀ (n : Nat) (l : List D), l.length = n * sz → (chunks sz n l).flatten = l
  | 0, l, h => by simp at h; subst h; rfl
  | n + 1, l, h => by
    unfold chunks
    rw [List.flatten_cons, chunks_flat sz n (l.drop sz) (by simp [h, Nat.succ_mul]), List.take_append_drop]
theorem chunks_len (sz : Nat) : ∀ (n : Nat) (l : List D), (chunks sz n l).length = n
  | 0, l => rfl
  | n + 1, l => by simp [chunks, chunks_len sz n]
theorem chunks_row (sz : Nat) : ∀ (n : Nat) (l : List D), l.length = n * sz → ∀ (i : Nat) (row : List D), (chunks sz n l)[i]? = some row → row.length = sz
  | 0, l, h, i, row, hi => by simp [chunks] at hi
  | n + 1, l, h, i, row, hi => by
    unfold chunks at hi
    cases i with
    | zero => simp at hi; subst hi; simp [h, Nat.succ_mul]
    | succ i => exact chunks_row sz n (l.drop sz) (by simp [h, Nat.succ_mul]) i row (by simpa using hi)
end Go.Proofs.YtnaknldbmapolaaGreatDoor
