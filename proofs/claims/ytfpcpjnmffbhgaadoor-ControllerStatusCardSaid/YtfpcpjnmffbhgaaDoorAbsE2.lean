/-
  The contract of step.after in the words of the abstract machine, for problems without tables and steps other than clear.
-/
import Derived.Test.YtfpcpjnmffbhgaaDoorAbsE
namespace Go.Proofs.YtfpcpjnmffbhgaaDoor
open Go Go.RowKit
set_option linter.unusedSimpArgs false
set_option linter.unusedVariables false
def numsOf (k : IntKind) : List (List D) → Option (List Int)
  | [] => some []
  | [.v (.int k' x)] :: r => if k' = k then (numsOf k r).map (x :: ·) else none
  | _ :: _ => none
def numRows (k : IntKind) (xs : List Int) : List (List D) := xs.map fun x => [.v (.int k x)]
theorem numsOf_eq (k : IntKind) : ∀ {rows : List (List D)} {xs : List Int}, numsOf k rows = some xs → rows = numRows k xs
  | [], xs, h => by simp [numsOf] at h; subst h; rfl
  | r :: rows, xs, h => by
    unfold numsOf at h
    split at h
    · simp at *
    · rename_i k' x r' heq
      cases heq
      split at h
      · rename_i hk
        subst hk
        obtain ⟨ys, h1, rfl⟩ := Option.map_eq_some_iff.1 h
        rw [numsOf_eq k' h1]
        rfl
      · cases h
    · cases h
theorem numRows_flat (k : IntKind) (xs : List Int) : (numRows k xs).flatten = xs.map fun x => D.v (.int k x) := by
  induction xs with
  | nil => rfl
  | cons x xs ih => rw [show numRows k (x :: xs) = [.v (.int k x)] :: numRows k xs from rfl, List.flatten_cons, ih]; rfl
theorem nums_cells {S : Nat → Prop} {ρ : Key → Hd} {ok : Key → Prop} {w : World} (k : IntKind) : ∀ {xs : List Int} {us : List Value}, All2 (CRel S ρ ok w) ((numRows k xs).flatten.map .d) us → us = xs.map (Value.int k) := by
  intro xs
  rw [numRows_flat]
  induction xs with
  | nil => intro us h; cases h; rfl
  | cons x xs ih =>
    intro us h
    cases h with
    | cons y z => rw [(Rd.val y).1, ih z]; rfl
/-- An own slice of numbers is data. -/
theorem own_rd {S : Nat → Prop} {w : World} {lo : Nat} {t : TypeId} {A : Option Addr} {c : Nat} {k : IntKind} {xs : List Int} (h : Own lo w t 1 A xs.length c (xs.map (Value.int k))) (hS : ∀ b, lo ≤ b → S b) (hb : xs.length ≤ 4611686018427387904) : Rd S w (.sl 1 (numRows k xs)) (.slice A xs.length c) := by
  have hl : (numRows k xs).length = xs.length := by simp [numRows]
  rw [← hl]
  rcases Nat.eq_zero_or_pos xs.length with h0 | h0
  · have hx : xs = [] := List.length_eq_zero_iff.1 h0
    subst hx
    exact .sl (rows := []) (b := 0) (o := 0) (cv := fun _ _ => undef) (by simp) (by simp) (fun h => absurd rfl h) (by simp) (by simp) (by simp)
  · obtain ⟨g, sp, h1, h2, h3, h4⟩ := h.blk h0
    have hrow : ∀ (i : Nat) (row : List D), (numRows k xs)[i]? = some row → ∃ x, xs[i]? = some x ∧ row = [.v (.int k x)] := by
      intro i row hi
      unfold numRows at hi
      rw [List.getElem?_map] at hi
      obtain ⟨x, hx1, hx2⟩ := Option.map_eq_some_iff.1 hi
      exact ⟨x, hx1, hx2.symm⟩
    refine .sl (b := g) (o := 0) (cv := fun i j => .int k (xs.getD i 0)) (by rw [hl]; exact h.1) (by rw [hl]; exact hb) (fun _ => ⟨h1, h4.lt, hS g h2⟩) (fun i row hi => by obtain ⟨x, _, rfl⟩ := hrow i row hi; rfl) (fun i row j d hi hj => ?_) (fun i row j d hi hj => ?_)
    · obtain ⟨x, hx1, rfl⟩ := hrow i row hi
      have hj0 : j = 0 := by
        cases j with
        | zero => rfl
        | succ j => simp at hj
      subst hj0
      have hil : i < xs.length := by
        rcases Nat.lt_or_ge i xs.length with g0 | g0
        · exact g0
        · rw [List.getElem?_eq_none g0] at hx1; cases hx1
      rw [h4.cell]
      simp [List.getElem?_append_left, hil, hx1]
    · obtain ⟨x, hx1, rfl⟩ := hrow i row hi
      have hj0 : j = 0 := by
        cases j with
        | zero => rfl
        | succ j => simp at hj
      subst hj0
      simp at hj
      subst hj
      simp only [List.getD_eq_getElem?_getD, hx1, Option.getD_some]
      exact .v rfl
def nums (k : IntKind) (c : C) : Option (List Int) := (lookRows (fun _ => none) 1 c).bind (numsOf k)
def afterX (args : List Arg) : Option ARes :=
  match args with
  | [.val true [p0, p1, p2, p3], .val true [m0, m1, m2], .val true [.d (.v (.int .i64 k)), .d (.v (.int .i64 i)), .d (.v (.int .i64 v))]] =>
    match nums .i64 p0, nums .i64 p1, nums .i64 p2, lookRows (fun _ => none) 6 p3 with
    | some vs, some ns, some ts, some [] => match nums .i64 m0, nums .i64 m1, nums .u8 m2 with
      | some b, some n, some h =>
        if k ≠ 3 ∧ 0 ≤ i ∧ i < b.length ∧ i < n.length ∧ 0 ≤ v ∧ v < 8 ∧ b.length ≤ 100 ∧ n.length ≤ 100 ∧ h.length ≤ 100 ∧ vs.length ≤ 100 ∧ ns.length ≤ 100 ∧ ts.length ≤ 100 then
          match afterP ⟨vs, ns, ts, []⟩ ⟨b, n, h⟩ ⟨k, i, v⟩ with
          | none => some { vals := [(true, [.dead, .dead, .dead]), (false, [.d (.v (.bool false))])] }
          | some m => if m.base.length ≤ 100 ∧ m.next.length ≤ 100 ∧ m.held.length ≤ 100 then some { vals := [(true, [.d (.sl 1 (numRows .i64 m.base)), .d (.sl 1 (numRows .i64 m.next)), .d (.sl 1 (numRows .u8 m.held))]), (false, [.d (.v (.bool true))])] } else none
        else none
      | _, _, _ => none
    | _, _, _, _ => none
  | _ => none
section
variable {V X : Nat → Prop} {Z : Key → Option Nat} {w0 w : World} {N : Nat} {ρ : Key → Hd} {ok : Key → Prop} {lt : Nat → Option AV} {lb : Key → Option Box} {a : Act}
theorem nums_sound (h : Rel V X Z w0 N ρ ok lt lb a w) {k : IntKind} {c : C} {v : Value} {xs : List Int} (he : nums k c = some xs) (hv : CRel (Im V ρ lb) ρ ok w c v) : ∃ A cp, v = .slice A xs.length cp ∧ Cells w A (xs.map (Value.int k)) := by
  obtain ⟨rows, h1, h2⟩ := Option.bind_eq_some_iff.1 he
  obtain ⟨A, cp, us, x1, x2, x3, x4, x5, x6⟩ := look_sound h (lb' := fun _ => none) (fun _ _ h => by cases h) (by omega) h1 hv
  have := numsOf_eq k h2
  subst this
  rw [nums_cells k x4] at x3
  exact ⟨A, cp, by rw [x1]; simp [numRows], x3⟩
theorem agg4 {R : C → Value → Prop} {c0 c1 c2 c3 : C} {v : Value} (h : AVRel R (.one true [c0, c1, c2, c3]) v) : ∃ v0 v1 v2 v3, v = .agg #[v0, v1, v2, v3] ∧ R c0 v0 ∧ R c1 v1 ∧ R c2 v2 ∧ R c3 v3 := by
  obtain ⟨vs, h1, h2⟩ := h
  cases h1 with | cons a h1 => cases h1 with | cons b h1 => cases h1 with | cons c h1 => cases h1 with | cons d h1 => cases h1; exact ⟨_, _, _, _, h2, a, b, c, d⟩
theorem agg3 {R : C → Value → Prop} {c0 c1 c2 : C} {v : Value} (h : AVRel R (.one true [c0, c1, c2]) v) : ∃ v0 v1 v2, v = .agg #[v0, v1, v2] ∧ R c0 v0 ∧ R c1 v1 ∧ R c2 v2 := by
  obtain ⟨vs, h1, h2⟩ := h
  cases h1 with | cons a h1 => cases h1 with | cons b h1 => cases h1 with | cons c h1 => cases h1; exact ⟨_, _, _, h2, a, b, c⟩
end
/-- A callee that hands back data alone. -/
theorem fn_data {P : Program} {f : FuncId} {args : List Arg} {vals0 : List (Bool × List C)} (hni : ioBx 0 args [] = [])
    (h : ∀ (V X : Nat → Prop) (Z : Key → Option Nat) (ρ : Key → Hd) (w : World) (vals : List Value), vals.length = args.length → Rel V X Z w vals.length ρ (fun q => q.2 < 1) (lk (argTm 0 args)) (lk (argBx 0 args ++ [])) ⟨vals.toArray, []⟩ w →
      Calls P f vals.toArray w fun e w' => ∃ v, e = .returned v ∧ Below w.heap.size w w' ∧ ∀ S : Nat → Prop, (∀ b, w.heap.size ≤ b → S b) → ∀ ρ' ok', AVRel (CRel S ρ' ok' w') (resAV id vals0) v) :
    FnSound P f args [] { vals := vals0 } := by
  intro V X Z ρ w vals hl hR
  refine (h V X Z ρ w vals hl hR).mono ?_
  rintro e w' ⟨v, rfl, hB, hv⟩
  refine ⟨v, ρ, rfl, rfl, rfl, fun t av ht => ?_, fun q box hq => ?_, fun q1 b1 q2 b2 b e1 => ?_, fun q box b hq => ?_, Keep.of_below hB (fun b hb _ => hb), fun b hb => hR.va b hb, fun q hq => ⟨trivial, (hR.zz q hq).2⟩⟩
  · unfold ltOne at ht
    split at ht
    · rename_i h0
      subst h0
      cases ht
      refine ⟨by omega, hv _ (fun b hb => ⟨fun hvb => ?_, fun q box hq => ?_⟩) _ _⟩
      · have := (hR.va b hvb).1
        omega
      · rw [hni] at hq; cases hq
    · cases ht
  · rw [hni] at hq; cases hq
  · rw [hni] at e1; cases e1
  · rw [hni] at hq; cases hq
theorem after_fn {args : List Arg} {r : ARes} (he : afterX args = some r) : FnSound Tryd.prog 88 args [] r := by
  unfold afterX at he
  split at he
  · rename_i p0 p1 p2 p3 m0 m1 m2 k i v
    split at he
    · rename_i vs ns ts hp0 hp1 hp2 hp3
      split at he
      · rename_i b n hh hm0 hm1 hm2
        split at he
        · rename_i hc
          obtain ⟨c1, c2, c3, c4, c5, c6, c7, c8, c9, c10, c11, c12⟩ := hc
          have core : ∀ (V X : Nat → Prop) (Z : Key → Option Nat) (ρ : Key → Hd) (w : World) (vals : List Value), vals.length = 3 → Rel V X Z w vals.length ρ (fun q => q.2 < 1) (lk (argTm 0 [.val true [p0, p1, p2, p3], .val true [m0, m1, m2], .val true [.d (.v (.int .i64 k)), .d (.v (.int .i64 i)), .d (.v (.int .i64 v))]])) (lk ([] ++ [])) ⟨vals.toArray, []⟩ w →
              Calls Tryd.prog 88 vals.toArray w (AfterPost w (afterP ⟨vs, ns, ts, []⟩ ⟨b, n, hh⟩ ⟨k, i, v⟩)) := by
            intro V X Z ρ w vals hl hR
            obtain ⟨_, hv0⟩ := args_val hR (i := 0) (av := .one true [p0, p1, p2, p3]) rfl
            obtain ⟨_, hv1⟩ := args_val hR (i := 1) (av := .one true [m0, m1, m2]) rfl
            obtain ⟨_, hv2⟩ := args_val hR (i := 2) (av := .one true [.d (.v (.int .i64 k)), .d (.v (.int .i64 i)), .d (.v (.int .i64 v))]) rfl
            obtain ⟨x0, x1, x2, x3, e0, r0, r1, r2, r3⟩ := agg4 hv0
            obtain ⟨y0, y1, y2, e1, s0, s1, s2⟩ := agg3 hv1
            have e2 : vals.getD 2 undef = .agg #[.int .i64 k, .int .i64 i, .int .i64 v] := conV_sound (x := .agg #[.int .i64 k, .int .i64 i, .int .i64 v]) rfl hv2
            obtain ⟨A0, d0, f0, g0⟩ := nums_sound hR hp0 r0
            obtain ⟨A1, d1, f1, g1⟩ := nums_sound hR hp1 r1
            obtain ⟨A2, d2, f2, g2⟩ := nums_sound hR hp2 r2
            obtain ⟨A3, d3, us, f3, _, _, _, _, _⟩ := look_sound hR (lb' := fun _ => none) (fun _ _ h => by cases h) (by omega) hp3 r3
            obtain ⟨B0, k0, h0, j0⟩ := nums_sound hR hm0 s0
            obtain ⟨B1, k1, h1, j1⟩ := nums_sound hR hm1 s1
            obtain ⟨B2, k2, h2, j2⟩ := nums_sound hR hm2 s2
            have hva : vals.toArray = #[.agg #[x0, x1, x2, x3], .agg #[y0, y1, y2], .agg #[.int .i64 k, .int .i64 i, .int .i64 v]] := by
              match vals, hl, e0, e1, e2 with
              | [a0, a1, a2], _, e0, e1, e2 => simp at e0 e1 e2; rw [e0, e1, e2]
            rw [hva]
            refine after_any _ _ ⟨vs, ns, ts, []⟩ ⟨b, n, hh⟩ k i v w ⟨A0, d0, A1, d1, A2, d2, A3, d3, by rw [f0, f1, f2, f3]; rfl, g0, g1, g2, fun j hj => by simp at hj, by show vs.length ≤ _; omega, by show ns.length ≤ _; omega, by show ts.length ≤ _; omega, by simp⟩
              ⟨B0, k0, B1, k1, B2, k2, by rw [h0, h1, h2], j0, j1, j2, by show b.length ≤ _; omega, by show n.length ≤ _; omega, by show hh.length ≤ _; omega⟩ c1 c2 c3 c4 (by simp) c5 c6 (by show b.length ≤ _; omega) (by show n.length ≤ _; omega) (by show hh.length ≤ _; omega)
          split at he
          · rename_i hap
            cases he
            refine fn_data rfl (fun V X Z ρ w vals hl hR => (core V X Z ρ w vals hl hR).mono ?_)
            rw [hap]
            rintro e w' ⟨a, b', c, n1, d1, n2, d2, n3, d3, rfl, hB⟩
            refine ⟨_, rfl, hB, fun S hS ρ' ok' => ?_⟩
            rw [resAV_id_tup (by simp)]
            have z : ∀ (A : Option Addr) (n c : Nat), CRel S ρ' ok' w' .dead (.slice A n c) := fun _ _ _ => rfl
            exact ⟨[.agg #[.slice a n1 d1, .slice b' n2 d2, .slice c n3 d3], .bool false], rfl, .cons ⟨[.slice a n1 d1, .slice b' n2 d2, .slice c n3 d3], .cons (z _ _ _) (.cons (z _ _ _) (.cons (z _ _ _) .nil)), by simp⟩ (.cons ⟨[.bool false], .cons (.v rfl) .nil, by simp⟩ .nil)⟩
          · rename_i m' hap
            split at he
            · rename_i hlen
              cases he
              refine fn_data rfl (fun V X Z ρ w vals hl hR => (core V X Z ρ w vals hl hR).mono ?_)
              rw [hap]
              rintro e w' ⟨s1, s2, bA, bc, nA, nc, hA, hc, rfl, hO, hB⟩
              obtain ⟨o1, o2, o3, o4, o5, o6, _⟩ := hO
              refine ⟨_, rfl, hB, fun S hS ρ' ok' => ?_⟩
              rw [resAV_id_tup (by simp)]
              have z1 : CRel S ρ' ok' w' (.d (.sl 1 (numRows .i64 m'.base))) (.slice bA m'.base.length bc) := own_rd (k := .i64) o1 hS (by omega)
              have z2 : CRel S ρ' ok' w' (.d (.sl 1 (numRows .i64 m'.next))) (.slice nA m'.next.length nc) := own_rd (k := .i64) o2 (fun b hb => hS b (by omega)) (by omega)
              have z3 : CRel S ρ' ok' w' (.d (.sl 1 (numRows .u8 m'.held))) (.slice hA m'.held.length hc) := own_rd (k := .u8) o3 (fun b hb => hS b (by omega)) (by omega)
              exact ⟨[.agg #[.slice bA m'.base.length bc, .slice nA m'.next.length nc, .slice hA m'.held.length hc], .bool true], rfl, .cons ⟨[.slice bA m'.base.length bc, .slice nA m'.next.length nc, .slice hA m'.held.length hc], .cons z1 (.cons z2 (.cons z3 .nil)), by simp⟩ (.cons ⟨[.bool true], .cons (.v rfl) .nil, by simp⟩ .nil)⟩
            · cases he
        · cases he
      · cases he
    · cases he
  · cases he
end Go.Proofs.YtfpcpjnmffbhgaaDoor
