/-
  The abstract machine is right: regions, code, loops.
-/
import Derived.Test.YtnaknldbmapolaaGreatDoorAbsR2
namespace Go.Proofs.YtnaknldbmapolaaGreatDoor
open Go Go.RowKit
set_option linter.unusedSimpArgs false
set_option linter.unusedVariables false
/-- The state stands. -/
def SR (V X : Nat → Prop) (Z : Key → Option Nat) (w0 : World) (N : Nat) (st : St) (a : Act) (w : World) : Prop := ∃ ρ, Rel V X Z w0 N ρ (fun q => q.2 < st.nx) (lk st.tm) (lk st.bx) a w
section
variable {V X : Nat → Prop} {Z : Key → Option Nat} {w0 : World} {N : Nat} {P : Program} {E : Env} {Q : Exit → Act → World → Prop}
theorem Rel.drew {w0 w : World} {ρ : Key → Hd} {ok : Key → Prop} {lt : Nat → Option AV} {lb : Key → Option Box} {a : Act} (h : Rel V X Z w0 N ρ ok lt lb a w) : Rel V X Z w0 N ρ ok lt lb a w.drew :=
  ⟨h.size, h.defers, fun t av ht => ⟨(h.tm t av ht).1, (h.tm t av ht).2.imp fun c v hc => hc.keep (Keep.drew _ w) (fun _ _ h => h) (fun _ _ => rfl) (fun _ h => h)⟩,
    fun q box hq => ⟨(h.bx q box hq).1, (h.bx q box hq).2.keep (Keep.drew _ w) (fun _ _ h => h) (fun _ _ => rfl) (fun _ h => h) (h.bx q box hq).1 (fun _ _ _ => rfl)⟩, h.ap, h.lo, h.fr.trans (Keep.drew _ _), h.va, h.zz⟩
theorem freeze_Shut (ks : List Key) : ∀ (bx : List (Key × Box)), Shut (lk bx) (lk (freezeB ks bx))
  | [] => fun q => .inl rfl
  | (k, b) :: r => fun q => by
    have ih := freeze_Shut ks r q
    by_cases h : q = k
    · subst h
      cases b with
      | st ty cs => exact .inl (by simp [freezeB, lk])
      | fz sz rows => exact .inl (by simp [freezeB, lk])
      | mp es ck => exact .inl (by simp [freezeB, lk])
      | sl ty sz rows =>
        by_cases hc : ks.contains q
        · exact .inr ⟨ty, sz, rows, by simp [lk], by simp [freezeB, lk]; simpa using hc⟩
        · exact .inl (by simp [freezeB, lk]; simpa using hc)
    · have e1 : lk ((k, b) :: r) q = lk r q := by show (if q = k then some b else lk r q) = _; rw [if_neg h]
      have e2 : lk (freezeB ks ((k, b) :: r)) q = lk (freezeB ks r) q := by
        show (if q = k then _ else lk (freezeB ks r) q) = _
        rw [if_neg h]
      rw [e1, e2]
      exact ih
theorem region_sound (hm : P.follows .mixedOrders = true) (hop : ∀ i, OpSound P (E.call i) E.lend) (hN : E.N = N) {id : Nat} {ops : Array Oper} {draw : Bool} {st s : St} (he : aregion P E ops draw st = some s) {a : Act} {w : World} (h : SR V X Z w0 N st a w)
    (hQ : ∀ a w, SR V X Z w0 N s a w → Q .normal a w) : (Code.region id ops draw).wp P Q a w := by
  have core : ∀ (st1 s1 : St) (ns : List Note), seqOps P E ops 0 ops.toList st1 = some (s1, [], ns) → (!draw || orderOk ops (masks ops ops.size) ns) = true → SR V X Z w0 N st1 a w → s = { s1 with nx := s1.nx + 1 } → (Code.region id ops draw).wp P Q a w := by
    intro st1 s1 ns hseq hord ⟨ρ, hR⟩ hs
    obtain ⟨rs, hrun, hnx, hns⟩ := run_of_seq hseq rfl rfl
    have hfin : ∀ a w, (∃ ρ, Rel V X Z w0 N ρ (fun q => q.2 < st1.nx + 1) (lk s1.tm) (lk s1.bx) a w) → Q .normal a w := by
      intro a w ⟨ρ, h'⟩
      refine hQ a w ⟨ρ, ?_⟩
      subst hs
      simp only [hnx]
      exact h'
    cases draw with
    | false =>
      refine wp_region ?_
      have := run_seq hop hN hrun (fun j o hj => by simpa using hj) (hR.okmono fun q hq => .inl hq) hfin
      simpa using this
    | true =>
      refine wp_region_any hm ?_
      have hD := hR.drew
      refine any_order hop hN hrun (by rw [← hns]; simpa using hord) hfin ops.size _ ρ a _ (by simp) (undone_all _ _) (fun i o ho hl => ?_) ?_
      · exfalso
        by_cases g : i < ops.size <;> simp [Array.getD, g] at hl
      · have e0 : (fun i => (Array.replicate ops.size false).getD i false) = fun _ => false := by
          funext i
          by_cases g : i < ops.size <;> simp [Array.getD, g]
        have e1 : ∀ n, ltS ops.toList rs (fun _ => false) (lk st1.tm) n = lk st1.tm := by
          intro n
          induction n with
          | zero => rfl
          | succ n ih => unfold ltS; rw [if_neg (by decide)]; exact ih
        have e2 : ∀ n, lbS rs (fun _ => false) (lk st1.bx) n = lk st1.bx := by
          intro n
          induction n with
          | zero => rfl
          | succ n ih => unfold lbS; rw [if_neg (by decide)]; exact ih
        rw [e0, e1, e2]
        exact hD.okmono fun q hq => .inl hq
  unfold aregion at he
  simp only [] at he
  split at he
  · rename_i s1 h1
    cases he
    split at h1
    · rename_i s2 k ns hseq
      split at h1
      · rename_i hord
        cases h1
        exact core st s1 ns hseq hord h rfl
      · cases h1
    · cases h1
  · rename_i s1 ks hne h1
    split at he
    · rename_i s2 h2
      cases he
      split at h2
      · rename_i s3 k ns hseq
        split at h2
        · rename_i hord
          cases h2
          obtain ⟨ρ, hR⟩ := h
          exact core _ s2 ns hseq hord ⟨ρ, hR.shut (freeze_Shut ks st.bx)⟩ rfl
        · cases h2
      · cases h2
    · cases he
  · cases he
/-- How a piece of code is left. -/
def QX (V X : Nat → Prop) (Z : Key → Option Nat) (w0 : World) (N : Nat) (out : AX × St) : Exit → Act → World → Prop
  | .normal, a, w => (match out.1 with | .normal => True | _ => False) ∧ SR V X Z w0 N out.2 a w
  | .exit id, a, w => (match out.1 with | .exit i => i = id | _ => False) ∧ SR V X Z w0 N out.2 a w
  | .ret, a, w => (match out.1 with | .ret => True | _ => False) ∧ SR V X Z w0 N out.2 a w
  | _, _, _ => False
theorem exists_least (p : Nat → Prop) (h : ∃ n, p n) : ∃ m, p m ∧ ∀ k, p k → m ≤ k := by
  obtain ⟨n, hn⟩ := h
  induction n using Nat.strongRecOn with
  | _ n ih =>
    by_cases hk : ∃ k, k < n ∧ p k
    · obtain ⟨k, h1, h2⟩ := hk; exact ih k h1 h2
    · exact ⟨n, hn, fun k hp => by
        rcases Nat.lt_or_ge k n with h | h
        · exact absurd ⟨k, h, hp⟩ hk
        · exact h⟩
theorem loop_sound {b : Code} {f : St → Option (AX × St)} {out : AX × St} (hb : ∀ st o, f st = some o → ∀ a w, SR V X Z w0 N st a w → b.wp P (QX V X Z w0 N o) a w) {n : Nat} {st : St} (he : iter f n st = some out) {a : Act} {w : World} (h : SR V X Z w0 N st a w) :
    (Code.loop b).wp P (QX V X Z w0 N out) a w := by
  let p : Act → World → Nat → Prop := fun a w n => ∃ st, iter f n st = some out ∧ SR V X Z w0 N st a w
  have hex : ∀ a w, ∃ m, (∃ n, p a w n) → (p a w m ∧ ∀ k, p a w k → m ≤ k) := fun a w => by
    by_cases hh : ∃ n, p a w n
    · obtain ⟨m, h1⟩ := exists_least _ hh; exact ⟨m, fun _ => h1⟩
    · exact ⟨0, fun h' => absurd h' hh⟩
  refine wp_loop (fun a w => ∃ n, p a w n) (fun a w => Classical.choose (hex a w)) ⟨n, st, he, h⟩ (fun a w hI => ?_)
  obtain ⟨⟨st1, h1, h2⟩, hmin⟩ := Classical.choose_spec (hex a w) hI
  generalize hm : Classical.choose (hex a w) = m at h1 hmin
  cases m with
  | zero => simp [iter] at h1
  | succ m =>
    unfold iter at h1
    split at h1
    · rename_i s hs
      refine wp_mono (hb st1 _ hs a w h2) (fun e a' w' hq => ?_)
      cases e with
      | normal =>
        refine ⟨⟨m, s, h1, hq.2⟩, ?_⟩
        have := (Classical.choose_spec (hex a' w') ⟨m, s, h1, hq.2⟩).2 m ⟨s, h1, hq.2⟩
        show Classical.choose (hex a' w') < m + 1
        omega
      | exit id => exact hq.1.elim
      | ret => exact hq.1.elim
      | goto l => exact hq.elim
      | panic ch => exact hq.elim
      | outgrown => exact hq.elim
    · rename_i hnn
      refine wp_mono (hb st1 out h1 a w h2) (fun e a' w' hq => ?_)
      cases e with
      | normal =>
        exfalso
        obtain ⟨x, s⟩ := out
        have hx := hq.1
        cases x with
        | normal => exact hnn s h1
        | exit id => exact hx.elim
        | ret => exact hx.elim
      | exit id => exact hq
      | ret => exact hq
      | goto l => exact hq.elim
      | panic ch => exact hq.elim
      | outgrown => exact hq.elim
theorem exec_sound (hm : P.follows .mixedOrders = true) (hop : ∀ i, OpSound P (E.call i) E.lend) (hN : E.N = N) (hcl : ∀ c st a w, SR V X Z w0 N st a w → SR V X Z w0 N (E.cl c st) a w) : ∀ (c : Code) (st : St) (out : AX × St), aexec P E c st = some out → ∀ a w, SR V X Z w0 N st a w → c.wp P (QX V X Z w0 N out) a w := by
  intro c
  induction c with
  | skip => intro st out he a w h; simp [aexec] at he; subst he; exact wp_skip ⟨trivial, h⟩
  | label l => intro st out he a w h; simp [aexec] at he; subst he; exact wp_label ⟨trivial, h⟩
  | region id ops draw =>
    intro st out he a w h
    simp only [aexec] at he
    cases h1 : aregion P E ops draw st with
    | none => simp [h1] at he
    | some s => simp [h1] at he; subst he; exact region_sound hm hop hN h1 h (fun a w h' => ⟨trivial, h'⟩)
  | seq x y ihx ihy =>
    intro st out he a w h
    simp only [aexec] at he
    split at he
    · rename_i s hs
      refine wp_seq (wp_mono (ihx st _ hs a w h) (fun e a' w' hq => ?_))
      cases e with
      | normal => exact ihy s out he a' w' hq.2
      | exit id => exact hq.1.elim
      | ret => exact hq.1.elim
      | goto l => exact hq.elim
      | panic ch => exact hq.elim
      | outgrown => exact hq.elim
    · rename_i hnn
      refine wp_seq (wp_mono (ihx st out he a w h) (fun e a' w' hq => ?_))
      cases e with
      | normal =>
        exfalso
        obtain ⟨x, s⟩ := out
        have hx := hq.1
        cases x with
        | normal => exact hnn s he
        | exit id => exact hx.elim
        | ret => exact hx.elim
      | exit id => exact hq
      | ret => exact hq
      | goto l => exact hq.elim
      | panic ch => exact hq.elim
      | outgrown => exact hq.elim
  | cond cnd x y ihx ihy =>
    intro st out he a w h
    simp only [aexec] at he
    split at he
    · rename_i b hb
      obtain ⟨ρ, hR⟩ := h
      have hc : a.eval cnd = .bool b := conV_sound (x := .bool b) rfl (ev_sound hR (fun _ _ h => h) hb)
      cases b with
      | true => exact wp_cond hc (by simpa using ihx st out (by simpa using he) a w ⟨ρ, hR⟩)
      | false => exact wp_cond hc (by simpa using ihy st out (by simpa using he) a w ⟨ρ, hR⟩)
    · cases he
  | block id b ih =>
    intro st out he a w h
    simp only [aexec] at he
    split at he
    · rename_i i s hs
      refine wp_block (wp_mono (ih st _ hs a w h) (fun e a' w' hq => ?_))
      split at he
      · rename_i hi
        cases he
        cases e with
        | normal => exact hq.1.elim
        | exit id' =>
          have h1 : i = id' := hq.1
          show (if id' = id then QX V X Z w0 N (.normal, s) .normal a' w' else QX V X Z w0 N (.normal, s) (.exit id') a' w')
          rw [if_pos (by omega)]
          exact ⟨trivial, hq.2⟩
        | ret => exact hq.1.elim
        | goto l => exact hq.elim
        | panic ch => exact hq.elim
        | outgrown => exact hq.elim
      · rename_i hi
        cases he
        cases e with
        | normal => exact hq.1.elim
        | exit id' =>
          have h1 : i = id' := hq.1
          show (if id' = id then QX V X Z w0 N (.exit i, s) .normal a' w' else QX V X Z w0 N (.exit i, s) (.exit id') a' w')
          rw [if_neg (by omega)]
          exact hq
        | ret => exact hq.1.elim
        | goto l => exact hq.elim
        | panic ch => exact hq.elim
        | outgrown => exact hq.elim
    · rename_i hnn
      refine wp_block (wp_mono (ih st out he a w h) (fun e a' w' hq => ?_))
      cases e with
      | normal => exact hq
      | exit id' =>
        exfalso
        obtain ⟨x, s⟩ := out
        have hx := hq.1
        cases x with
        | normal => exact hx.elim
        | exit i => exact hnn i s he
        | ret => exact hx.elim
      | ret => exact hq
      | goto l => exact hq.elim
      | panic ch => exact hq.elim
      | outgrown => exact hq.elim
  | loop b ih =>
    intro st out he a w h
    simp only [aexec] at he
    exact loop_sound (f := fun s => aexec P E b (E.cl b s)) (fun st o ho a w h' => ih _ o ho a w (hcl b st a w h')) he h
  | exit id => intro st out he a w h; simp [aexec] at he; subst he; exact wp_exit ⟨rfl, h⟩
  | ret => intro st out he a w h; simp [aexec] at he; subst he; exact wp_ret ⟨trivial, h⟩
  | rangeFunc f ps x y => intro st out he; simp [aexec] at he
  | scope b => intro st out he; simp [aexec] at he
  | goto l => intro st out he; simp [aexec] at he
  | refuse s => intro st out he; simp [aexec] at he
end
end Go.Proofs.YtnaknldbmapolaaGreatDoor
