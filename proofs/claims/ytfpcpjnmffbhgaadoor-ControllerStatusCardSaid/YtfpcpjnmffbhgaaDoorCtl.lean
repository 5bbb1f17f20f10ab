/-
  States of a controller: how they stand in memory; contracts of their equality (layers 36, 53, 54).
-/
import Derived.Test.YtfpcpjnmffbhgaaDoorCmp
namespace Go.Proofs.YtfpcpjnmffbhgaaDoor
open Go.RowKit
set_option linter.unusedSimpArgs false
set_option linter.unusedVariables false
set_option maxHeartbeats 2000000
set_option maxRecDepth 100000
structure CtlD where
  plan : List StepD
  at_ : Int
  phase : Int
  replica : Int
  round : Int
  token : Int
  mix : MixD
def CtlAt (w : World) (v : Value) (c : CtlD) : Prop :=
  ∃ pA pc bA bc nA nc hA hc, v = .agg #[.slice pA c.plan.length pc, .int .i64 c.at_, .int .i64 c.phase, .int .i64 c.replica, .int .i64 c.round, .int .i64 c.token, .slice bA c.mix.base.length bc, .slice nA c.mix.next.length nc, .slice hA c.mix.held.length hc] ∧
    Steps w pA c.plan ∧ c.plan.length ≤ 4611686018427387904 ∧ MixAt w (.agg #[.slice bA c.mix.base.length bc, .slice nA c.mix.next.length nc, .slice hA c.mix.held.length hc]) c.mix
theorem CtlAt.ext {w w' : World} {v : Value} {c : CtlD} (h : CtlAt w v c) (hb : Below w.heap.size w w') : CtlAt w' v c := by
  obtain ⟨pA, pc, bA, bc, nA, nc, hA, hc, h0, h1, h2, h3⟩ := h
  exact ⟨pA, pc, bA, bc, nA, nc, hA, hc, h0, h1.ext hb, h2, h3.ext hb⟩
/-- The first number that is not zero. -/
def orInts : List Int → Int
  | [] => 0
  | a :: r => if a ≠ 0 then a else orInts r
theorem or_step {xs : List Int} {k : Nat} (h : k < xs.length) : orInts (xs.drop k) = if xs[k] ≠ 0 then xs[k] else orInts (xs.drop (k + 1)) := by
  rw [drop_cons h]; rfl
theorem cmpOr (A : Option Addr) (c : Nat) (xs : List Int) (w : World) (hA : Cells w A (ints xs)) (l0 : xs.length ≤ 4611686018427387904) :
    Calls Tryd.prog 77 #[.slice A xs.length c] w fun e w' => e = .returned (.int .i64 (orInts xs)) ∧ Below w.heap.size w w' := by
  have HA := hid hA
  clear hA
  go_enter Tryd.func77, Tryd.ntmps77
  go_wp2_with fail
  go_loopw [8] (fun iv wr => ∃ k : Nat, k ≤ xs.length ∧ iv = .int .i64 k ∧ Hid (orInts (xs.drop k) = orInts xs) ∧ Below w.heap.size w wr) (fun iv _ => xs.length - (intOf iv).toNat)
  case atStart => exact ⟨0, Nat.zero_le _, rfl, rfl, ext_refl _⟩
  case round =>
    obtain ⟨k, hk, rfl, hS, hB⟩ := hrel
    by_cases hlt : k < xs.length
    · obtain ⟨b0, o0, rfl, hb0, p0⟩ := HA.out.at_int hlt
      have k0 := gr_cell0 hB hb0 p0
      have HD := hid (or_step hlt)
      clear p0
      generalize xs[k] = x at k0 HD
      by_cases g : x = 0
      · subst g
        go_wp2_with fail
        go_roundw
        case rel => exact ⟨k + 1, by omega, by go_num, by show _ = _; rw [← hS.out, HD.out]; rfl, hB⟩
        case measure => simp [intOf]; omega
      · have g' : (x != 0) = true := by simpa using g
        have G := hid g
        clear g
        go_wp2_with fail
        go_ret
        exact ⟨ret_int (by rw [← hS.out, HD.out, if_pos G.out]), hB⟩
    · go_wp2_with fail
      go_ret
      exact ⟨ret_int (by rw [← hS.out, List.drop_eq_nil_of_le (by omega)]; rfl), hB⟩
theorem or_mix (a b : MixD) : orInts [cmpInts a.base b.base, cmpInts a.next b.next, cmpInts a.held b.held] = cmpMix a b := by
  unfold cmpMix
  simp only [orInts]
  split
  · rfl
  · split
    · rfl
    · split
      · rfl
      · omega
theorem mixCompare (av bv : Value) (a b : MixD) (w : World) (ha : MixAt w av a) (hb : MixAt w bv b) :
    Calls Tryd.prog 54 #[av, bv] w fun e w' => e = .returned (.int .i64 (cmpMix a b)) ∧ Below w.heap.size w w' := by
  obtain ⟨bA, bc, nA, nc, hA, hc, rfl, a1, a2, a3, m0, m1, m2⟩ := ha
  obtain ⟨bB, bd, nB, nd, hB, hd, rfl, b1, b2, b3, n0, n1, n2⟩ := hb
  have A1 := hid a1
  have A2 := hid a2
  have A3 := hid a3
  have B1 := hid b1
  have B2 := hid b2
  have B3 := hid b3
  clear a1 a2 a3 b1 b2 b3
  go_enter Tryd.func54, Tryd.ntmps54
  go_wp2_with fail
  have P0 : Blk ((w.alloc (.cells #[.slice bA a.base.length bc, .slice nA a.next.length nc, .slice hA a.held.length hc] 26)).alloc (.cells #[.slice bB b.base.length bd, .slice nB b.next.length nd, .slice hB b.held.length hd] 26)) w.heap.size 26 #[.slice bA a.base.length bc, .slice nA a.next.length nc, .slice hA a.held.length hc] := by (repeat (first | assumption | (with_reducible refine Blk.new' ?_; simp; done) | with_reducible refine Blk.alloc ?_ _ | with_reducible refine Blk.drew ?_ | with_reducible refine Blk.ext ?_ (by assumption)))
  have Q0 : Blk ((w.alloc (.cells #[.slice bA a.base.length bc, .slice nA a.next.length nc, .slice hA a.held.length hc] 26)).alloc (.cells #[.slice bB b.base.length bd, .slice nB b.next.length nd, .slice hB b.held.length hd] 26)) (w.heap.size + 1) 26 #[.slice bB b.base.length bd, .slice nB b.next.length nd, .slice hB b.held.length hd] := by (repeat (first | assumption | (with_reducible refine Blk.new' ?_; simp; done) | with_reducible refine Blk.alloc ?_ _ | with_reducible refine Blk.drew ?_ | with_reducible refine Blk.ext ?_ (by assumption)))
  have X0 := hid (ext_alloc (ext_alloc (ext_refl w) (.cells #[.slice bA a.base.length bc, .slice nA a.next.length nc, .slice hA a.held.length hc] 26)) (.cells #[.slice bB b.base.length bd, .slice nB b.next.length nd, .slice hB b.held.length hd] 26))
  generalize ((w.alloc (.cells #[.slice bA a.base.length bc, .slice nA a.next.length nc, .slice hA a.held.length hc] 26)).alloc (.cells #[.slice bB b.base.length bd, .slice nB b.next.length nd, .slice hB b.held.length hd] 26)) = w0 at P0 Q0 X0 ⊢
  have HP := fun x : Gr w0 => gr_blk P0 x
  have HQ := fun x : Gr w0 => gr_blk Q0 x
  go_region_held3 (fun w' => (∀ i, w'.cell? ⟨w.heap.size, i, none⟩ = (#[.slice bA a.base.length bc, .slice nA a.next.length nc, .slice hA a.held.length hc] : Array Value)[i]?) ∧ (∀ i, w'.cell? ⟨w.heap.size + 1, i, none⟩ = (#[.slice bB b.base.length bd, .slice nB b.next.length nd, .slice hB b.held.length hd] : Array Value)[i]?)) (first | exact ⟨P0.cell, Q0.cell⟩ | exact ⟨P1.cell, Q1.cell⟩ | exact ⟨P2.cell, Q2.cell⟩ | exact ⟨P3.cell, Q3.cell⟩ | exact ⟨(P3.alloc _).cell, (Q3.alloc _).cell⟩ | exact ⟨P4.cell, Q4.cell⟩)
    (first
    | (go_at_call_of 78 (bA); refine (compareInt bA bB bc bd a.base b.base _ (A1.out.ext (ext_drew X0.out)) (B1.out.ext (ext_drew X0.out)) m0 n0).mono ?_; rintro e w1 ⟨rfl, hb1⟩; have P1 := P0.drew.ext hb1; have Q1 := Q0.drew.ext hb1; have X1 := hid (ext_step (ext_drew X0.out) hb1))
    | (go_at_call_of 78 (nA); refine (compareInt nA nB nc nd a.next b.next _ (A2.out.ext X1.out) (B2.out.ext X1.out) m1 n1).mono ?_; rintro e w2 ⟨rfl, hb2⟩; have P2 := P1.ext hb2; have Q2 := Q1.ext hb2; have X2 := hid (ext_step X1.out hb2))
    | (go_at_call 79; refine (compareSet hA hB hc hd a.held b.held _ (A3.out.ext X2.out) (B3.out.ext X2.out) m2 n2).mono ?_; rintro e w3 ⟨rfl, hb3⟩; have P3 := P2.ext hb3; have Q3 := Q2.ext hb3; have X3 := hid (ext_step X2.out hb3))
    | (go_at_call 77; refine (cmpOr (some ⟨w3.heap.size, 0, none⟩) 3 [cmpInts a.base b.base, cmpInts a.next b.next, cmpInts a.held b.held] _ (cells_new _ _ _) (by simp)).mono ?_; rintro e w4 ⟨rfl, hb4⟩; have P4 := (P3.alloc _).ext hb4; have Q4 := (Q3.alloc _).ext hb4; have X4 := hid (ext_step (ext_alloc X3.out _) hb4)))
  go_wp2_with fail
  go_ret
  exact ⟨ret_int (or_mix a b), X4.out⟩
def sameCtl (a b : CtlD) : Bool := (a.plan == b.plan) && (a.at_ == b.at_) && (a.phase == b.phase) && (a.replica == b.replica) && (a.round == b.round) && (cmpMix a.mix b.mix == 0)
end Go.Proofs.YtfpcpjnmffbhgaaDoor
