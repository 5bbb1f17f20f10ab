/-
  The abstract machine is right: regions, in whatever order the machine draws.
-/
import Derived.Test.YtnaknldbmapolaaGreatDoorAbsO6
import Derived.Test.YtnaknldbmapolaaGreatDoorMake
namespace Go.Proofs.YtnaknldbmapolaaGreatDoor
open Go Go.RowKit
set_option linter.unusedSimpArgs false
set_option linter.unusedVariables false
/-- Each single operation is right. -/
def OpSound (P : Program) (call : CallF) (lend : FuncId → Bool) : Prop :=
  ∀ {V X : Nat → Prop} {Z : Key → Option Nat} {w0 w : World} {N : Nat} {ρ : Key → Hd} {ok ok' : Key → Prop} {lt lt' : Nat → Option AV} {lb lb' : Key → Option Box} {a : Act} {o : Oper} {e : Eff} {cur : Nat} {key : Nat → Key} {Q : Exit → Act → World → Prop},
    Rel V X Z w0 N ρ ok lt lb a w → (∀ q : Key, ok q → ok' q) → (∀ k, o.dst = some k → k < N) → (∀ t x, lt' t = some x → lt t = some x) → (∀ t x, lb' t = some x → lb t = some x) →
    (∀ i j, key i = key j → i = j) → (∀ j, j < 64 → ¬ ok (key j) ∧ ok' (key j)) → effOf P call lend cur key o lt' lb' = some e → e.needs = [] → o.wp P a w (Aft V X Z w0 N ok' lt lb o.dst e) Q
theorem onlyT_sub (o : Oper) (lt : Nat → Option AV) (t : Nat) (x : AV) (h : onlyT o lt t = some x) : lt t = some x := by
  unfold onlyT at h
  split at h
  · exact h
  · cases h
theorem onlyB_sub (ks : List Key) (lb : Key → Option Box) (k : Key) (x : Box) (h : onlyB ks lb k = some x) : lb k = some x := by
  unfold onlyB at h
  split at h
  · exact h
  · cases h
theorem keyAt_inj (i nx : Nat) : ∀ j k, keyAt i nx j = keyAt i nx k → j = k := by
  intro j k h
  simp [keyAt] at h
  omega
/-- One operation of a run in the order of the text. -/
structure Rec where
  av : AV
  up : List (Key × Option Box)
  keys : List Key
/-- What the text's order gives, operation by operation. -/
inductive Run (P : Program) (E : Env) (ops : Array Oper) (nx : Nat) : Nat → List Oper → (Nat → Option AV) → (Key → Option Box) → List Rec → (Nat → Option AV) → (Key → Option Box) → Prop
  | nil {i : Nat} {lt : Nat → Option AV} {lb : Key → Option Box} : Run P E ops nx i [] lt lb [] lt lb
  | op {i : Nat} {o : Oper} {rest : List Oper} {lt lt' : Nat → Option AV} {lb lb' : Key → Option Box} {e : Eff} {rs : List Rec} (hd : ∀ k, o.dst = some k → k < E.N) (hw : wantA ops o lt = some true) (he : effAt P E i o lt lb nx = some e) (hn : e.needs = [])
      (t : Run P E ops nx (i + 1) rest (updT lt o.dst e.av) (updB lb e.up) rs lt' lb') : Run P E ops nx i (o :: rest) lt lb (⟨e.av, e.up, opKeys lt lb o⟩ :: rs) lt' lb'
  | no {i : Nat} {o : Oper} {rest : List Oper} {lt lt' : Nat → Option AV} {lb lb' : Key → Option Box} {rs : List Rec} (hd : ∀ k, o.dst = some k → k < E.N) (hw : wantA ops o lt = some false)
      (t : Run P E ops nx (i + 1) rest (updT lt o.dst .un) lb rs lt' lb') : Run P E ops nx i (o :: rest) lt lb (⟨.un, [], []⟩ :: rs) lt' lb'
theorem lk_filter {β : Type} (tm : List (Nat × β)) (d t : Nat) (h : t ≠ d) : lk (tm.filter (·.1 != d)) t = lk tm t := by
  induction tm with
  | nil => rfl
  | cons p r ih =>
    obtain ⟨k, v⟩ := p
    by_cases hk : k = d
    · subst hk
      simp only [List.filter_cons, bne_self_eq_false, Bool.false_eq_true, if_false]
      rw [ih]
      unfold lk
      rw [if_neg h]
      cases r <;> rfl
    · have : (k != d) = true := by simpa using hk
      simp only [List.filter_cons, this, if_true]
      unfold lk
      rw [ih]
theorem lk_setT (d : Option Nat) (av : AV) (tm : List (Nat × AV)) : lk (setT d av tm) = updT (lk tm) d av := by
  funext t
  unfold setT updT
  cases d with
  | none => simp
  | some d =>
    simp only [Option.some.injEq]
    by_cases h : t = d
    · subst h; simp [lk]
    · rw [if_neg (fun e => h e.symm)]
      show (if t = d then some av else lk (tm.filter (·.1 != d)) t) = _
      rw [if_neg h, lk_filter tm d t h]
theorem lk_filterK (bx : List (Key × Box)) (d t : Key) : lk (bx.filter (·.1 != d)) t = if t = d then none else lk bx t := by
  induction bx with
  | nil => simp [lk]
  | cons p r ih =>
    obtain ⟨k, v⟩ := p
    by_cases hk : k = d
    · subst hk
      simp only [List.filter_cons, bne_self_eq_false, Bool.false_eq_true, if_false]
      rw [ih]
      by_cases h : t = k
      · rw [if_pos h, if_pos h]
      · rw [if_neg h, if_neg h]
        show _ = (if t = k then some v else lk r t)
        rw [if_neg h]
    · have : (k != d) = true := by simpa using hk
      simp only [List.filter_cons, this, if_true]
      show (if t = k then some v else lk (r.filter (·.1 != d)) t) = if t = d then none else (if t = k then some v else lk r t)
      rw [ih]
      by_cases h : t = k
      · subst h; rw [if_pos rfl, if_pos rfl, if_neg hk]
      · rw [if_neg h, if_neg h]
theorem lk_putB : ∀ (up : List (Key × Option Box)) (bx : List (Key × Box)), lk (putB up bx) = updB (lk bx) up
  | [], bx => rfl
  | (k, some b) :: r, bx => by
    funext q
    show (if q = k then some b else lk ((putB r bx).filter (·.1 != k)) q) = _
    rw [lk_filterK, lk_putB r bx]
    unfold updB
    show _ = match (if q = k then some (some b) else lk r q) with | some ob => ob | none => lk bx q
    by_cases h : q = k
    · rw [if_pos h, if_pos h]
    · rw [if_neg h, if_neg h, if_neg h]
      cases lk r q <;> rfl
  | (k, none) :: r, bx => by
    funext q
    show lk ((putB r bx).filter (·.1 != k)) q = _
    rw [lk_filterK, lk_putB r bx]
    unfold updB
    show _ = match (if q = k then some none else lk r q) with | some ob => ob | none => lk bx q
    by_cases h : q = k
    · rw [if_pos h, if_pos h]
    · rw [if_neg h, if_neg h]
      cases lk r q <;> rfl
/-- A run of the machine's list is a run; the notes are its records. -/
theorem run_of_seq {P : Program} {E : Env} {ops : Array Oper} {nx : Nat} : ∀ {i : Nat} {l : List Oper} {st s : St} {ks : List Key} {ns : List Note}, seqOps P E ops i l st = some (s, ks, ns) → ks = [] → st.nx = nx →
    ∃ rs, Run P E ops nx i l (lk st.tm) (lk st.bx) rs (lk s.tm) (lk s.bx) ∧ s.nx = nx ∧ ns = rs.map fun r => ⟨r.keys, r.up.map (·.1)⟩
  | i, [], st, s, ks, ns, h, hk, hx => by
    simp [seqOps] at h
    obtain ⟨rfl, rfl, rfl⟩ := h
    exact ⟨[], .nil, hx, rfl⟩
  | i, o :: rest, st, s, ks, ns, h, hk, hx => by
    unfold seqOps at h
    split at h
    · rename_i hd
      have hd' : ∀ k, o.dst = some k → k < E.N := fun k hk => by rw [hk] at hd; simpa using hd
      split at h
      · rename_i hw
        split at h
        · rename_i e he
          cases h1 : seqOps P E ops (i + 1) rest { st with tm := setT o.dst e.av st.tm, bx := putB e.up st.bx } with
          | none => simp [h1] at h
          | some r =>
            obtain ⟨s', k', n'⟩ := r
            simp [h1] at h
            obtain ⟨rfl, rfl, rfl⟩ := h
            obtain ⟨hn, hk'⟩ := List.append_eq_nil_iff.1 hk
            obtain ⟨rs, g1, g2, g3⟩ := run_of_seq h1 hk' hx
            simp only [lk_setT, lk_putB] at g1
            exact ⟨_, .op hd' hw (by rw [← hx]; exact he) hn g1, g2, by simp [g3]⟩
        · cases h
      · rename_i hw
        cases h1 : seqOps P E ops (i + 1) rest { st with tm := setT o.dst .un st.tm } with
        | none => simp [h1] at h
        | some r =>
          obtain ⟨s', k', n'⟩ := r
          simp [h1] at h
          obtain ⟨rfl, rfl, rfl⟩ := h
          obtain ⟨rs, g1, g2, g3⟩ := run_of_seq h1 hk hx
          simp only [lk_setT] at g1
          exact ⟨_, .no hd' hw g1, g2, by simp [g3]⟩
      · cases h
    · cases h
section
variable {V X : Nat → Prop} {Z : Key → Option Nat} {w0 w : World} {N : Nat} {ρ : Key → Hd} {ok ok' : Key → Prop} {lt lt' : Nat → Option AV} {lb lb' : Key → Option Box} {a : Act} {P : Program} {E : Env} {ops : Array Oper} {Q : Exit → Act → World → Prop}
theorem wantA_sound (h : Rel V X Z w0 N ρ ok lt lb a w) {o : Oper} {b : Bool} (he : wantA ops o lt = some b) : Region.wanted o (yielded ops a.tmps) = b := by
  unfold wantA at he
  unfold Region.wanted
  split at he
  · rename_i hg; cases he; simp [hg]
  · rename_i j bb hg
    simp only [hg]
    cases hd : (ops[j]?).bind (·.dst) with
    | none => simp [hd] at he
    | some t =>
      cases ht : lt t with
      | none => simp [hd, ht] at he
      | some av =>
        simp only [hd, ht, Option.bind_some] at he
        obtain ⟨h1, h2⟩ := h.tm t av ht
        have h3 : a.tmps[t]? = some (a.tmps.getD t undef) := by
          have : t < a.tmps.size := by rw [h.size]; exact h1
          simp [Array.getD, this]
        unfold yielded
        simp only [hd, Option.bind_some, h3]
        split at he
        · rename_i c e2
          cases he
          cases e2
          have := conV_sound (x := .bool c) rfl h2
          rw [this]
          simp
        · rename_i e2
          cases he
          cases e2
          have h4 : a.tmps.getD t undef = undef := h2
          rw [h4]
          simp [undef]
        · cases he
/-- The order of the text. -/
theorem run_seq (hop : ∀ i, OpSound P (E.call i) E.lend) (hN : E.N = N) {nx : Nat} : ∀ {i : Nat} {l : List Oper} {lt lt' : Nat → Option AV} {lb lb' : Key → Option Box} {rs : List Rec} {ρ : Key → Hd} {a : Act} {w : World}, Run P E ops nx i l lt lb rs lt' lb' → (∀ j o, l[j]? = some o → ops[i + j]? = some o) →
    Rel V X Z w0 N ρ (fun q => q.2 < nx ∨ (q.2 = nx ∧ q.1 / 64 < i)) lt lb a w → (∀ a w, (∃ ρ, Rel V X Z w0 N ρ (fun q => q.2 < nx + 1) lt' lb' a w) → Q .normal a w) → wpOps P ops Q ((List.range l.length).map (i + ·)) a w
  | i, [], lt, lt', lb, lb', rs, ρ, a, w, hr, ho, h, hQ => by
    cases hr
    exact hQ a w ⟨ρ, h.okmono fun q hq => by omega⟩
  | i, o :: rest, lt, lt', lb, lb', rs, ρ, a, w, hr, ho, h, hQ => by
    have h0 : ops[i]? = some o := by simpa using ho 0 o (by simp)
    have e1 : (List.range (o :: rest).length).map (i + ·) = i :: (List.range rest.length).map ((i + 1) + ·) := by
      rw [List.length_cons, List.range_succ_eq_map, List.map_cons, List.map_map]
      congr 1
      apply List.map_congr_left
      intro x _
      simp
      omega
    rw [e1, wpOps_cons]
    unfold wpOp
    simp only [h0]
    have ho' : ∀ j o, rest[j]? = some o → ops[i + 1 + j]? = some o := fun j o hj => by
      have := ho (j + 1) o (by simpa using hj)
      rwa [show i + (j + 1) = i + 1 + j by omega] at this
    cases hr with
    | op hd hw he hn t =>
      rw [if_pos (by rw [wantA_sound h hw])]
      refine .inl (Oper.wp_mono (fun a' w' ⟨ρ', h'⟩ => run_seq hop hN t ho' h' hQ) (hop i h (ok' := fun q => q.2 < nx ∨ (q.2 = nx ∧ q.1 / 64 < i + 1)) (fun q hq => by omega) (fun k hk => hN ▸ hd k hk) (onlyT_sub o lt) (onlyB_sub _ lb) (keyAt_inj i nx) (fun j hj => ?_) he hn))
      show ¬ (nx < nx ∨ (nx = nx ∧ (i * 64 + j) / 64 < i)) ∧ (nx < nx ∨ (nx = nx ∧ (i * 64 + j) / 64 < i + 1))
      exact ⟨by omega, by omega⟩
    | no hd hw t =>
      rw [if_neg (by rw [wantA_sound h hw]; simp)]
      exact run_seq hop hN t ho' (h.pure o.dst .un undef (fun k hk => hN ▸ hd k hk) (fun q hq => by omega) rfl) hQ
end
end Go.Proofs.YtnaknldbmapolaaGreatDoor
