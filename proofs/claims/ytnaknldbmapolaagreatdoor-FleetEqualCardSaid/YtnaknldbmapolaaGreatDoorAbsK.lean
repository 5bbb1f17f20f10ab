/-
  The abstract machine is right: what a call leaves in the caller's state.
-/
import Derived.Test.YtnaknldbmapolaaGreatDoorAbsF
namespace Go.Proofs.YtnaknldbmapolaaGreatDoor
open Go Go.RowKit
set_option linter.unusedSimpArgs false
set_option linter.unusedVariables false
section
variable {S S' : Nat → Prop} {ρ ρ' : Key → Hd} {ok ok' : Key → Prop} {w w' : World}
theorem Rd.keep2 {d : D} {v : Value} (h : Rd S w d v) (hk : Keep S w w') (hs : ∀ b, b < w.heap.size → S b → S' b) : Rd S' w' d v :=
  ((h.mono (S' := fun b => S b ∧ S' b) (fun b hb h1 => ⟨h1, hs b hb h1⟩)).keep (hk.mono fun _ _ h => h.1)).mono fun _ _ h => h.2
theorem CRel.keep2 {c : C} {v : Value} (h : CRel S ρ ok w c v) (hk : Keep S w w') (hs : ∀ b, b < w.heap.size → S b → S' b) (hρ : ∀ q : Key, ok q → ρ' q = ρ q) (hn : ∀ q : Key, ok q → ok' q) : CRel S' ρ' ok' w' c v := by
  have h1 : CRel (fun b => S b ∧ S' b) ρ ok w c v := h.keep (Keep.refl _ _) (fun b hb h1 => ⟨h1, hs b hb h1⟩) (fun _ _ => rfl) (fun _ h => h)
  have h2 : CRel (fun b => S b ∧ S' b) ρ' ok' w' c v := h1.keep (hk.mono fun _ _ h => h.1) (fun _ _ h => h) hρ hn
  exact h2.keep (Keep.refl _ _) (fun _ _ h => h.2) (fun _ _ => rfl) (fun _ h => h)
theorem BoxRel.keep2 {q : Key} {box : Box} (h : BoxRel S ρ ok w q box) (hk : Keep S w w') (hs : ∀ b, b < w.heap.size → S b → S' b) (hρ : ∀ q : Key, ok q → ρ' q = ρ q) (hn : ∀ q : Key, ok q → ok' q)
    (hq : ok q) (hg : box.live = true → ∀ b, (ρ q).g = some b → w'.heap[b]? = w.heap[b]?) : BoxRel S' ρ' ok' w' q box := by
  have h1 : BoxRel (fun b => S b ∧ S' b) ρ ok w q box := h.keep (Keep.refl _ _) (fun b hb h1 => ⟨h1, hs b hb h1⟩) (fun _ _ => rfl) (fun _ h => h) hq (fun _ _ _ => rfl)
  have h2 : BoxRel (fun b => S b ∧ S' b) ρ' ok' w' q box := h1.keep (hk.mono fun _ _ h => h.1) (fun _ _ h => h) hρ hn hq hg
  exact h2.keep (Keep.refl _ _) (fun _ _ h => h.2) (fun _ _ => rfl) (fun _ h => h) (hn q hq) (fun _ _ _ => rfl)
end
section
variable {V X : Nat → Prop} {Z : Key → Option Nat} {w0 w w' : World} {N : Nat} {ρ ρ' : Key → Hd} {ok ok' : Key → Prop} {lt : Nat → Option AV} {lb lb' : Key → Option Box} {a : Act}
/-- How the relation goes on, where old memory that is no data may have changed. -/
theorem Rel.step2 (h : Rel V X Z w0 N ρ ok lt lb a w) (d : Option Nat) (av : AV) (v : Value) (hd : ∀ k, d = some k → k < N)
    (hk : Keep (Im V ρ lb) w w') (hs : ∀ b, b < w.heap.size → Im V ρ lb b → Im V ρ' lb' b) (hρ : ∀ q : Key, ok q → ρ' q = ρ q) (ho : ∀ q : Key, ok q → ok' q)
    (hv : AVRel (CRel (Im V ρ' lb') ρ' ok' w') av v)
    (hbx : ∀ q box, lb' q = some box → (lb q = some box ∧ (box.live = true → ∀ b, (ρ q).g = some b → w'.heap[b]? = w.heap[b]?)) ∨ (ok' q ∧ BoxRel (Im V ρ' lb') ρ' ok' w' q box))
    (hap : ∀ q box q' box' b, lb' q = some box → box.live = true → lb' q' = some box' → box'.live = true → (ρ' q).g = some b → (ρ' q').g = some b → q = q')
    (hlo : ∀ q box b, lb' q = some box → box.live = true → (ρ' q).g = some b → b < w'.heap.size ∧ (w0.heap.size ≤ b ∨ X b))
    (hfr : Keep (fun b => ¬ X b) w0 w') : Rel V X Z w0 N ρ' ok' (updT lt d av) lb' (a.put d v) w' := by
  have hsz : ∀ k, d = some k → k < a.tmps.size := fun k hk' => by rw [h.size]; exact hd k hk'
  refine ⟨by rw [put_sz]; exact h.size, by rw [put_def]; exact h.defers, fun t av' ht => ?_, fun q box hq => ?_, hap, hlo, hfr, h.va, fun q hq => ⟨ho q (h.zz q hq).1, by rw [hρ q (h.zz q hq).1]; exact (h.zz q hq).2⟩⟩
  · rw [put_getD a d v t hsz]
    unfold updT at ht
    by_cases e : d = some t
    · rw [if_pos e] at ht ⊢
      cases ht
      exact ⟨hd t e, hv⟩
    · rw [if_neg e] at ht ⊢
      obtain ⟨h1, h2⟩ := h.tm t av' ht
      exact ⟨h1, h2.imp fun c v hc => hc.keep2 hk hs hρ ho⟩
  · rcases hbx q box hq with ⟨h1, h2⟩ | h1
    · obtain ⟨h3, h4⟩ := h.bx q box h1
      exact ⟨ho q h3, h4.keep2 hk hs hρ ho h3 h2⟩
    · exact h1
end
theorem mem_of_lk {α β : Type} [DecidableEq α] {k : α} {v : β} : ∀ {l : List (α × β)}, lk l k = some v → (k, v) ∈ l
  | [], h => by cases h
  | (q, x) :: r, h => by
    by_cases e : k = q
    · subst e
      rw [show lk ((k, x) :: r) k = some x from if_pos rfl] at h
      cases h
      simp
    · rw [show lk ((q, x) :: r) k = lk r k from if_neg e] at h
      exact List.mem_cons_of_mem _ (mem_of_lk h)
theorem nodup_mem {k : Key} {ks : List Key} (h : nodup (k :: ks) = true) : k ∉ ks ∧ nodup ks = true := by
  simp only [nodup, Bool.and_eq_true, Bool.not_eq_true'] at h
  exact ⟨by simpa using h.1, h.2⟩
theorem lk_of_mem {β : Type} {k : Key} {v : β} : ∀ {l : List (Key × β)}, nodup (l.map (·.1)) = true → (k, v) ∈ l → lk l k = some v
  | [], _, h => by cases h
  | (q, x) :: r, hn, h => by
    rw [List.map_cons] at hn
    obtain ⟨h1, h2⟩ := nodup_mem hn
    rcases List.mem_cons.1 h with e | e
    · cases e; exact if_pos rfl
    · have hne : k ≠ q := fun e' => h1 (by rw [← e']; exact List.mem_map.2 ⟨_, e, rfl⟩)
      rw [show lk ((q, x) :: r) k = lk r k from if_neg hne]
      exact lk_of_mem h2 e
theorem nodup_val {k k' q : Key} : ∀ {l : List (Key × Key)}, nodup (l.map (·.2)) = true → (k, q) ∈ l → (k', q) ∈ l → k = k'
  | [], _, h, _ => by cases h
  | (x, y) :: r, hn, h, h' => by
    rw [List.map_cons] at hn
    obtain ⟨h1, h2⟩ := nodup_mem hn
    rcases List.mem_cons.1 h with e | e <;> rcases List.mem_cons.1 h' with e' | e'
    · cases e; cases e'; rfl
    · cases e; exact absurd (List.mem_map.2 ⟨_, e', rfl⟩) h1
    · cases e'; exact absurd (List.mem_map.2 ⟨_, e, rfl⟩) h1
    · exact nodup_val h2 e e'
theorem nodup_append {ks ls : List Key} : nodup (ks ++ ls) = true → nodup ks = true ∧ nodup ls = true ∧ ∀ k ∈ ks, k ∉ ls := by
  induction ks with
  | nil => intro h; exact ⟨rfl, by simpa using h, by simp⟩
  | cons k ks ih =>
    intro h
    obtain ⟨h1, h2⟩ := nodup_mem (by simpa using h)
    obtain ⟨h3, h4, h5⟩ := ih h2
    refine ⟨?_, h4, fun x hx => ?_⟩
    · simp only [nodup, Bool.and_eq_true, Bool.not_eq_true']
      exact ⟨by simpa using fun hm => h1 (by simp [hm]), h3⟩
    · rcases List.mem_cons.1 hx with rfl | hx
      · exact fun hm => h1 (by simp [hm])
      · exact h5 x hx
/-- The keys under which a result's boxes are taken over. -/
theorem renK_mem (f : Key → Key) (key : Nat → Key) (hinj : ∀ i j, key i = key j → i = j) : ∀ {bx : List (Key × Box)} {n : Nat} {κ : Key} {box : Box}, nodup (bx.map (·.1)) = true → (κ, box) ∈ bx → ∃ j, renK key bx n κ = key (n + j) ∧ j < bx.length ∧ bx[j]? = some (κ, box) ∧ lk (takeBx f key bx n) (key (n + j)) = some (some (renBx f box))
  | [], n, κ, box, _, h => by cases h
  | (k, b) :: r, n, κ, box, hn, h => by
    rw [List.map_cons] at hn
    obtain ⟨h1, h2⟩ := nodup_mem hn
    rcases List.mem_cons.1 h with e | e
    · cases e
      exact ⟨0, by simp [renK], by simp, by simp, by simp [takeBx, lk]⟩
    · have hne : κ ≠ k := fun e' => h1 (by rw [← e']; exact List.mem_map.2 ⟨_, e, rfl⟩)
      obtain ⟨j, g1, g2, g3, g4⟩ := renK_mem f key hinj (n := n + 1) h2 e
      refine ⟨j + 1, by simp only [renK]; rw [if_neg hne, g1]; congr 1; omega, by simp; exact g2, by simpa using g3, ?_⟩
      rw [show n + (j + 1) = n + 1 + j by omega]
      have hk : key (n + 1 + j) ≠ key n := fun e' => by have := hinj _ _ e'; omega
      rw [show lk (takeBx f key ((k, b) :: r) n) (key (n + 1 + j)) = lk (takeBx f key r (n + 1)) (key (n + 1 + j)) from if_neg hk]
      exact g4
theorem takeBx_lk (f : Key → Key) (key : Nat → Key) : ∀ {bx : List (Key × Box)} {n : Nat} {q : Key} {ob : Option Box}, lk (takeBx f key bx n) q = some ob → ∃ j κ box, q = key (n + j) ∧ bx[j]? = some (κ, box) ∧ ob = some (renBx f box)
  | [], n, q, ob, h => by cases h
  | (k, b) :: r, n, q, ob, h => by
    by_cases e : q = key n
    · rw [show lk (takeBx f key ((k, b) :: r) n) q = some (some (renBx f b)) from if_pos e] at h
      cases h
      exact ⟨0, k, b, by simpa using e, by simp, rfl⟩
    · rw [show lk (takeBx f key ((k, b) :: r) n) q = lk (takeBx f key r (n + 1)) q from if_neg e] at h
      obtain ⟨j, κ, box, h1, h2, h3⟩ := takeBx_lk f key h
      exact ⟨j + 1, κ, box, by rw [h1]; congr 1; omega, by simpa using h2, h3⟩
theorem putIo_lk (f : Key → Key) : ∀ {i : Nat} {xs : List Arg} {qs : List (Key × TypeId)} {ios : List (List C)} {q : Key} {ob : Option Box}, lk (putIo f qs ios) q = some ob → (∀ n, (xs.filter isIo).length = n → qs.length = n) → ios.length = qs.length →
    (∀ (j : Nat), ∀ q ty, qs[j]? = some (q, ty) → ∀ t cs, (xs.filter isIo)[j]? = some (.io t cs) → t = ty) →
    ∃ κ ty cs, (κ, q) ∈ zipIo i xs qs ∧ (κ, Box.st ty cs) ∈ ioBx i xs ios ∧ ob = some (.st ty (cs.map (renC f)))
  | i, [], qs, ios, q, ob, h, hl, hi, ht => by
    have : qs.length = 0 := hl 0 rfl
    have hq : qs = [] := List.length_eq_zero_iff.1 this
    subst hq
    cases h
  | i, .val b cs :: xs, qs, ios, q, ob, h, hl, hi, ht => by
    obtain ⟨κ, ty, cs', h1, h2, h3⟩ := putIo_lk f (i := i + 1) (xs := xs) h (fun n hn => hl n (by simpa [isIo] using hn)) hi (fun j q ty hq t cs hx => ht j q ty hq t cs (by simpa [isIo] using hx))
    exact ⟨κ, ty, cs', h1, h2, h3⟩
  | i, .io t0 cs0 :: xs, [], ios, q, ob, h, hl, hi, ht => by cases h
  | i, .io t0 cs0 :: xs, (q0, ty0) :: qs, [], q, ob, h, hl, hi, ht => by simp at hi
  | i, .io t0 cs0 :: xs, (q0, ty0) :: qs, cs :: ios, q, ob, h, hl, hi, ht => by
    have hfi : (Arg.io t0 cs0 :: xs).filter isIo = Arg.io t0 cs0 :: xs.filter isIo := rfl
    rw [hfi] at hl ht
    have hty : t0 = ty0 := ht 0 q0 ty0 (by simp) t0 cs0 (by simp)
    subst hty
    by_cases e : q = q0
    · subst e
      rw [show lk (putIo f ((q, t0) :: qs) (cs :: ios)) q = some (some (.st t0 (cs.map (renC f)))) from if_pos rfl] at h
      cases h
      exact ⟨(i, 0), t0, cs, by simp [zipIo], by simp [ioBx], rfl⟩
    · rw [show lk (putIo f ((q0, t0) :: qs) (cs :: ios)) q = lk (putIo f qs ios) q from if_neg e] at h
      obtain ⟨κ, ty, cs', h1, h2, h3⟩ := putIo_lk f (i := i + 1) (xs := xs) h (fun n hn => by have := hl (n + 1) (by simpa using hn); simpa using this) (by simpa using hi) (fun j q ty hq t cs hx => ht (j + 1) q ty (by simpa using hq) t cs (by simpa using hx))
      exact ⟨κ, ty, cs', by simp [zipIo, h1], by simp [ioBx, h2], h3⟩
end Go.Proofs.YtnaknldbmapolaaGreatDoor
