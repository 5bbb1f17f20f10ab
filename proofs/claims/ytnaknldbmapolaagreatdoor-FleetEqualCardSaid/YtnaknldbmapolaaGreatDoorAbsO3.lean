/-
  The abstract machine is right: own slices that become data; stores; slices that are made; append.
-/
import Derived.Test.YtnaknldbmapolaaGreatDoorAbsO2
namespace Go.Proofs.YtnaknldbmapolaaGreatDoor
open Go Go.RowKit
set_option linter.unusedSimpArgs false
set_option linter.unusedVariables false
section
variable {V X : Nat → Prop} {Z : Key → Option Nat} {w0 w w' : World} {N : Nat} {ρ : Key → Hd} {ok ok' : Key → Prop} {lt lt' : Nat → Option AV} {lb lb' lb2 : Key → Option Box} {a : Act} {P : Program} {o : Oper} {e : Eff} {Q : Exit → Act → World → Prop}
/-- lb2 is lb with some own slices shut. -/
def Shut (lb lb2 : Key → Option Box) : Prop := ∀ q, lb2 q = lb q ∨ ∃ ty sz rows, lb q = some (.sl ty sz rows) ∧ lb2 q = some (.fz sz rows)
theorem im_shut (hs : Shut lb lb2) {b : Nat} (h : Im V ρ lb b) : Im V ρ lb2 b := by
  refine ⟨h.1, fun q box hq hl => ?_⟩
  rcases hs q with h1 | ⟨ty, sz, rows, h1, h2⟩
  · rw [h1] at hq; exact h.2 q box hq hl
  · rw [h2] at hq; cases hq; simp [Box.live] at hl
/-- The block of an own slice that is shut is data's. -/
theorem im_of_shut (h : Rel V X Z w0 N ρ ok lt lb a w) (hs : Shut lb lb2) {q : Key} {ty : TypeId} {sz : Nat} {rows : List (List D)} (h1 : lb q = some (.sl ty sz rows)) (h2 : lb2 q = some (.fz sz rows)) {b : Nat} (hg : (ρ q).g = some b) : Im V ρ lb2 b := by
  refine ⟨fun hv => ?_, fun q' box hq' hl hg' => ?_⟩
  · have h3 := h.va b hv
    rcases (h.lo q _ b h1 rfl hg).2 with h4 | h4
    · omega
    · exact h3.2 h4
  · have h3 : lb q' = some box := by
      rcases hs q' with h3 | ⟨_, _, _, h3, h4⟩
      · rw [← h3]; exact hq'
      · rw [h4] at hq'; cases hq'; simp [Box.live] at hl
    have := h.ap q' box q _ b h3 hl h1 rfl hg' hg
    subst this
    rw [h2] at hq'
    cases hq'
    simp [Box.live] at hl
theorem Rel.shut (h : Rel V X Z w0 N ρ ok lt lb a w) (hs : Shut lb lb2) : Rel V X Z w0 N ρ ok lt lb2 a w := by
  have hm : ∀ b, b < w.heap.size → Im V ρ lb b → Im V ρ lb2 b := fun b _ hi => im_shut hs hi
  have back : ∀ q box, lb2 q = some box → box.live = true → lb q = some box := fun q box hq hl => by
    rcases hs q with h1 | ⟨_, _, _, h1, h2⟩
    · rw [← h1]; exact hq
    · rw [h2] at hq; cases hq; simp [Box.live] at hl
  refine ⟨h.size, h.defers, fun t av ht => ⟨(h.tm t av ht).1, (h.tm t av ht).2.imp fun c v hc => hc.keep (Keep.refl _ _) hm (fun _ _ => rfl) (fun _ h => h)⟩, fun q box hq => ?_, fun q b1 q' b2 b e1 l1 e2 l2 => h.ap q b1 q' b2 b (back q b1 e1 l1) l1 (back q' b2 e2 l2) l2, fun q box b hq hl => h.lo q box b (back q box hq hl) hl, h.fr, h.va, h.zz⟩
  rcases hs q with h1 | ⟨ty, sz, rows, h1, h2⟩
  · rw [h1] at hq
    obtain ⟨k1, k2⟩ := h.bx q box hq
    exact ⟨k1, k2.keep (Keep.refl _ _) hm (fun _ _ => rfl) (fun _ h => h) k1 (fun _ _ _ => rfl)⟩
  · rw [h2] at hq
    cases hq
    obtain ⟨k1, k2⟩ := h.bx q _ h1
    refine ⟨k1, ?_⟩
    simp only [BoxRel]
    exact toD_sound h (lb' := lb) (fun _ _ h => h) hm (c := .own q) (d := .sl sz rows) (ks := [q]) (by simp [toD, h1]) (fun q' box b hq' hb hg => by
      simp at hq'
      subst hq'
      exact im_of_shut h hs h1 h2 hg) ⟨k1, rfl⟩
theorem shut_lk (cur : Nat) (lb' : Key → Option Box) : ∀ (ks : List Key) (q : Key), lk (shut cur lb' ks) q = none ∨ ∃ ty sz rows, lb' q = some (.sl ty sz rows) ∧ lk (shut cur lb' ks) q = some (some (.fz sz rows))
  | [], q => .inl rfl
  | k :: ks, q => by
    have ih := shut_lk cur lb' ks q
    unfold shut at ih ⊢
    by_cases hc : k.2 == cur
    · simp only [List.filter_cons, hc, if_true, List.filterMap_cons]
      split
      · exact ih
      · rename_i x hx
        split at hx
        · rename_i ty sz rows hk
          cases hx
          unfold lk
          by_cases hq : q = k
          · subst hq; rw [if_pos rfl]; exact .inr ⟨ty, sz, rows, hk, rfl⟩
          · rw [if_neg hq]; exact ih
        · cases hx
    · simp only [List.filter_cons, hc]
      exact ih
theorem shut_mem {cur : Nat} {lb' : Key → Option Box} : ∀ {ks : List Key} {q : Key} {ty : TypeId} {sz : Nat} {rows : List (List D)}, q ∈ ks → q.2 = cur → lb' q = some (.sl ty sz rows) → lk (shut cur lb' ks) q = some (some (.fz sz rows))
  | k :: ks, q, ty, sz, rows, hm, hc, hq => by
    by_cases e : q = k
    · subst e
      unfold shut
      simp only [List.filter_cons, hc, beq_self_eq_true, if_true, List.filterMap_cons, hq]
      unfold lk
      rw [if_pos rfl]
    · have ih := shut_mem (ks := ks) (by simpa [e] using hm) hc hq
      unfold shut at ih ⊢
      by_cases hc : k.2 == cur
      · simp only [List.filter_cons, hc, if_true, List.filterMap_cons]
        split
        · exact ih
        · unfold lk; rename_i x hx; split at hx
          · cases hx; rw [if_neg e]; exact ih
          · cases hx
      · simp only [List.filter_cons, hc]
        exact ih
theorem shut_Shut (hb : ∀ t x, lb' t = some x → lb t = some x) (cur : Nat) (ks : List Key) : Shut lb (updB lb (shut cur lb' ks)) := by
  intro q
  rcases shut_lk cur lb' ks q with h | ⟨ty, sz, rows, h1, h2⟩
  · exact .inl (by unfold updB; rw [h])
  · exact .inr ⟨ty, sz, rows, hb _ _ h1, by unfold updB; rw [h2]⟩
theorem updB_cons (lb : Key → Option Box) (k : Key) (ob : Option Box) (r : List (Key × Option Box)) : updB lb ((k, ob) :: r) = updB (updB lb r) [(k, ob)] := by
  funext q
  rw [updB_one]
  unfold updB
  rw [show lk ((k, ob) :: r) q = if q = k then some ob else lk r q from rfl]
  split <;> rename_i h <;> split at h <;> simp_all
theorem toD_ks {c : C} {d : D} {ks : List Key} (h : toD lb' c = some (d, ks)) : ∀ q ∈ ks, ∃ ty sz rows, lb' q = some (.sl ty sz rows) := by
  cases c <;> simp [toD] at h
  · obtain ⟨_, rfl⟩ := h; simp
  · obtain ⟨_, rfl⟩ := h; simp
  · split at h
    · cases h; simp
    · cases h; rename_i hq; intro q hq'; simp at hq'; subst hq'; exact ⟨_, _, _, hq⟩
    · cases h
theorem toDs_ks : ∀ {cs : List C} {ds : List D} {ks : List Key}, toDs lb' cs = some (ds, ks) → ∀ q ∈ ks, ∃ ty sz rows, lb' q = some (.sl ty sz rows)
  | [], ds, ks, he => by simp [toDs] at he; obtain ⟨rfl, rfl⟩ := he; simp
  | c :: cs, ds, ks, he => by
    unfold toDs at he
    cases h1 : toD lb' c with
    | none => simp [h1] at he
    | some p =>
      cases h2 : toDs lb' cs with
      | none => simp [h1, h2] at he
      | some r =>
        obtain ⟨d, k1⟩ := p
        obtain ⟨ds', k2⟩ := r
        simp [h1, h2] at he
        obtain ⟨rfl, rfl⟩ := he
        intro q hq
        rcases List.mem_append.1 hq with hq | hq
        · exact toD_ks h1 q hq
        · exact toDs_ks h2 q hq
theorem needs_cur {cur : Nat} {ks : List Key} (h : ks.filter (·.2 != cur) = []) : ∀ q ∈ ks, q.2 = cur := by
  intro q hq
  have := List.filter_eq_nil_iff.1 h q hq
  simpa using this
/-- Cells that become data, the own slices among them shut. -/
theorem toDs_shut (h : Rel V X Z w0 N ρ ok lt lb a w) (hb : ∀ t x, lb' t = some x → lb t = some x) {cur : Nat} {cs : List C} {vs : List Value} {ds : List D} {ks : List Key} (he : toDs lb' cs = some (ds, ks)) (hn : ks.filter (·.2 != cur) = []) (hA : All2 (CRel (Im V ρ lb) ρ ok w) cs vs) :
    All2 (CRel (Im V ρ (updB lb (Go.Proofs.YtnaknldbmapolaaGreatDoor.shut cur lb' ks))) ρ ok w) (ds.map .d) vs := by
  have hs := shut_Shut (lb := lb) hb cur ks
  refine toDs_sound h hb (fun b _ hi => im_shut hs hi) he (fun q box b hq hbx hg => ?_) hA
  obtain ⟨ty, sz, rows, h1⟩ := toDs_ks he q hq
  exact im_of_shut h hs (hb _ _ h1) (by unfold updB; rw [shut_mem hq (needs_cur hn q hq) h1]) hg
end
end Go.Proofs.YtnaknldbmapolaaGreatDoor
