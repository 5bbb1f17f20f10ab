/-
  States of a controller: how they stand in memory; contracts of their equality (layers 36, 53, 54).
-/
import Derived.Test.YtheklfcealopdaaCmp
namespace Go.Proofs.Ytheklfcealopdaa
open Go.RowKit
set_option linter.unusedSimpArgs false
set_option linter.unusedVariables false
set_option maxHeartbeats 2000000
set_option maxRecDepth 100000
structure CtlD where
  plan : List StepD
  at_ : Int
  phase : Int
  replica : Int
  round : Int
  token : Int
  mix : MixD
def CtlAt (w : World) (v : Value) (c : CtlD) : Prop :=
  ∃ pA pc bA bc nA nc hA hc, v = .agg #[.slice pA c.plan.length pc, .int .i64 c.at_, .int .i64 c.phase, .int .i64 c.replica, .int .i64 c.round, .int .i64 c.token, .slice bA c.mix.base.length bc, .slice nA c.mix.next.length nc, .slice hA c.mix.held.length hc] ∧
    Steps w pA c.plan ∧ c.plan.length ≤ 4611686018427387904 ∧ MixAt w (.agg #[.slice bA c.mix.base.length bc, .slice nA c.mix.next.length nc, .slice hA c.mix.held.length hc]) c.mix
theorem CtlAt.ext {w w' : World} {v : Value} {c : CtlD} (h : CtlAt w v c) (hb : Below w.heap.size w w') : CtlAt w' v c := by
  obtain ⟨pA, pc, bA, bc, nA, nc, hA, hc, h0, h1, h2, h3⟩ := h
  exact ⟨pA, pc, bA, bc, nA, nc, hA, hc, h0, h1.ext hb, h2, h3.ext hb⟩
/-- The first number that is not zero. -/
def orInts : List Int → Int
  | [] => 0
  | a :: r => if a ≠ 0 then a else orInts r
theorem or_step {xs : List Int} {k : Nat} (h : k < xs.length) : orInts (xs.drop k) = if xs[k] ≠ 0 then xs[k] else orInts (xs.drop (k + 1)) := by
  rw [drop_cons h]; rfl
theorem cmpOr (A : Option Addr) (c : Nat) (xs : List Int) (w : World) (hA : Cells w A (ints xs)) (l0 : xs.length ≤ 4611686018427387904) :
    Calls Try.prog 20 #[.slice A xs.length c] w fun e w' => e = .returned (.int .i64 (orInts xs)) ∧ Below w.heap.size w w' := by
  have HA := hid hA
  clear hA
  go_enter Try.func20, Try.ntmps20
  go_wp2_with fail
  go_loopw [8] (fun iv wr => ∃ k : Nat, k ≤ xs.length ∧ iv = .int .i64 k ∧ Hid (orInts (xs.drop k) = orInts xs) ∧ Below w.heap.size w wr) (fun iv _ => xs.length - (intOf iv).toNat)
  case atStart => exact ⟨0, Nat.zero_le _, rfl, rfl, ext_refl _⟩
  case round =>
    obtain ⟨k, hk, rfl, hS, hB⟩ := hrel
    by_cases hlt : k < xs.length
    · obtain ⟨b0, o0, rfl, hb0, p0⟩ := HA.out.at_int hlt
      have k0 := gr_cell0 hB hb0 p0
      have HD := hid (or_step hlt)
      clear p0
      generalize xs[k] = x at k0 HD
      by_cases g : x = 0
      · subst g
        go_wp2_with fail
        go_roundw
        case rel => exact ⟨k + 1, by omega, by go_num, by show _ = _; rw [← hS.out, HD.out]; rfl, hB⟩
        case measure => simp [intOf]; omega
      · have g' : (x != 0) = true := by simpa using g
        have G := hid g
        clear g
        go_wp2_with fail
        go_ret
        exact ⟨ret_int (by rw [← hS.out, HD.out, if_pos G.out]), hB⟩
    · go_wp2_with fail
      go_ret
      exact ⟨ret_int (by rw [← hS.out, List.drop_eq_nil_of_le (by omega)]; rfl), hB⟩
theorem or_mix (a b : MixD) : orInts [cmpInts a.base b.base, cmpInts a.next b.next, cmpInts a.held b.held] = cmpMix a b := by
  unfold cmpMix
  simp only [orInts]
  split
  · rfl
  · split
    · rfl
    · split
      · rfl
      · omega
theorem mixCompare (av bv : Value) (a b : MixD) (w : World) (ha : MixAt w av a) (hb : MixAt w bv b) :
    Calls Try.prog 16 #[av, bv] w fun e w' => e = .returned (.int .i64 (cmpMix a b)) ∧ Below w.heap.size w w' := by
  obtain ⟨bA, bc, nA, nc, hA, hc, rfl, a1, a2, a3, m0, m1, m2⟩ := ha
  obtain ⟨bB, bd, nB, nd, hB, hd, rfl, b1, b2, b3, n0, n1, n2⟩ := hb
  have A1 := hid a1
  have A2 := hid a2
  have A3 := hid a3
  have B1 := hid b1
  have B2 := hid b2
  have B3 := hid b3
  clear a1 a2 a3 b1 b2 b3
  go_enter Try.func16, Try.ntmps16
  go_wp2_with fail
  have P0 : Blk ((w.alloc (.cells #[.slice bA a.base.length bc, .slice nA a.next.length nc, .slice hA a.held.length hc] 34)).alloc (.cells #[.slice bB b.base.length bd, .slice nB b.next.length nd, .slice hB b.held.length hd] 34)) w.heap.size 34 #[.slice bA a.base.length bc, .slice nA a.next.length nc, .slice hA a.held.length hc] := by (repeat (first | assumption | (with_reducible refine Blk.new' ?_; simp; done) | with_reducible refine Blk.alloc ?_ _ | with_reducible refine Blk.drew ?_ | with_reducible refine Blk.ext ?_ (by assumption)))
  have Q0 : Blk ((w.alloc (.cells #[.slice bA a.base.length bc, .slice nA a.next.length nc, .slice hA a.held.length hc] 34)).alloc (.cells #[.slice bB b.base.length bd, .slice nB b.next.length nd, .slice hB b.held.length hd] 34)) (w.heap.size + 1) 34 #[.slice bB b.base.length bd, .slice nB b.next.length nd, .slice hB b.held.length hd] := by (repeat (first | assumption | (with_reducible refine Blk.new' ?_; simp; done) | with_reducible refine Blk.alloc ?_ _ | with_reducible refine Blk.drew ?_ | with_reducible refine Blk.ext ?_ (by assumption)))
  have X0 := hid (ext_alloc (ext_alloc (ext_refl w) (.cells #[.slice bA a.base.length bc, .slice nA a.next.length nc, .slice hA a.held.length hc] 34)) (.cells #[.slice bB b.base.length bd, .slice nB b.next.length nd, .slice hB b.held.length hd] 34))
  generalize ((w.alloc (.cells #[.slice bA a.base.length bc, .slice nA a.next.length nc, .slice hA a.held.length hc] 34)).alloc (.cells #[.slice bB b.base.length bd, .slice nB b.next.length nd, .slice hB b.held.length hd] 34)) = w0 at P0 Q0 X0 ⊢
  have HP := fun x : Gr w0 => gr_blk P0 x
  have HQ := fun x : Gr w0 => gr_blk Q0 x
  go_region_held3 (fun w' => (∀ i, w'.cell? ⟨w.heap.size, i, none⟩ = (#[.slice bA a.base.length bc, .slice nA a.next.length nc, .slice hA a.held.length hc] : Array Value)[i]?) ∧ (∀ i, w'.cell? ⟨w.heap.size + 1, i, none⟩ = (#[.slice bB b.base.length bd, .slice nB b.next.length nd, .slice hB b.held.length hd] : Array Value)[i]?)) (first | exact ⟨P0.cell, Q0.cell⟩ | exact ⟨P1.cell, Q1.cell⟩ | exact ⟨P2.cell, Q2.cell⟩ | exact ⟨P3.cell, Q3.cell⟩ | exact ⟨(P3.alloc _).cell, (Q3.alloc _).cell⟩ | exact ⟨P4.cell, Q4.cell⟩)
    (first
    | (go_at_call_of 21 (bA); refine (compareInt bA bB bc bd a.base b.base _ (A1.out.ext (ext_drew X0.out)) (B1.out.ext (ext_drew X0.out)) m0 n0).mono ?_; rintro e w1 ⟨rfl, hb1⟩; have P1 := P0.drew.ext hb1; have Q1 := Q0.drew.ext hb1; have X1 := hid (ext_step (ext_drew X0.out) hb1))
    | (go_at_call_of 21 (nA); refine (compareInt nA nB nc nd a.next b.next _ (A2.out.ext X1.out) (B2.out.ext X1.out) m1 n1).mono ?_; rintro e w2 ⟨rfl, hb2⟩; have P2 := P1.ext hb2; have Q2 := Q1.ext hb2; have X2 := hid (ext_step X1.out hb2))
    | (go_at_call 22; refine (compareSet hA hB hc hd a.held b.held _ (A3.out.ext X2.out) (B3.out.ext X2.out) m2 n2).mono ?_; rintro e w3 ⟨rfl, hb3⟩; have P3 := P2.ext hb3; have Q3 := Q2.ext hb3; have X3 := hid (ext_step X2.out hb3))
    | (go_at_call 20; refine (cmpOr (some ⟨w3.heap.size, 0, none⟩) 3 [cmpInts a.base b.base, cmpInts a.next b.next, cmpInts a.held b.held] _ (cells_new _ _ _) (by simp)).mono ?_; rintro e w4 ⟨rfl, hb4⟩; have P4 := (P3.alloc _).ext hb4; have Q4 := (Q3.alloc _).ext hb4; have X4 := hid (ext_step (ext_alloc X3.out _) hb4)))
  go_wp2_with fail
  go_ret
  exact ⟨ret_int (or_mix a b), X4.out⟩
def sameCtl (a b : CtlD) : Bool := (a.plan == b.plan) && (a.at_ == b.at_) && (a.phase == b.phase) && (a.replica == b.replica) && (a.round == b.round) && (cmpMix a.mix b.mix == 0)
theorem recSame (av bv : Value) (a b : CtlD) (w : World) (ha : CtlAt w av a) (hb : CtlAt w bv b) :
    Calls Try.prog 10 #[av, bv] w fun e w' => e = .returned (.bool (sameCtl a b)) ∧ Below w.heap.size w w' := by
  obtain ⟨pA, pc, bA, bc, nA, nc, hA, hc, rfl, a1, a2, a3⟩ := ha
  obtain ⟨pB, pd, bB, bd, nB, nd, hB, hd, rfl, b1, b2, b3⟩ := hb
  have A1 := hid a1
  have A3 := hid a3
  have B1 := hid b1
  have B3 := hid b3
  clear a1 a3 b1 b3
  go_enter Try.func10, Try.ntmps10
  go_wp2_with fail
  refine (eqStep _ _ _ _ _ _ _ (A1.out.ext (ext_alloc (ext_alloc (ext_refl _) _) _)) (B1.out.ext (ext_alloc (ext_alloc (ext_refl _) _) _)) a2 b2).mono ?_
  rintro e w1 ⟨rfl, hb1⟩
  have P1 : Blk w1 w.heap.size 36 #[.slice pA a.plan.length pc, .int .i64 a.at_, .int .i64 a.phase, .int .i64 a.replica, .int .i64 a.round, .int .i64 a.token, .slice bA a.mix.base.length bc, .slice nA a.mix.next.length nc, .slice hA a.mix.held.length hc] := by (repeat (first | assumption | (with_reducible refine Blk.new' ?_; simp; done) | with_reducible refine Blk.alloc ?_ _ | with_reducible refine Blk.drew ?_ | with_reducible refine Blk.ext ?_ (by assumption)))
  have Q1 : Blk w1 (w.heap.size + 1) 36 #[.slice pB b.plan.length pd, .int .i64 b.at_, .int .i64 b.phase, .int .i64 b.replica, .int .i64 b.round, .int .i64 b.token, .slice bB b.mix.base.length bd, .slice nB b.mix.next.length nd, .slice hB b.mix.held.length hd] := by (repeat (first | assumption | (with_reducible refine Blk.new' ?_; simp; done) | with_reducible refine Blk.alloc ?_ _ | with_reducible refine Blk.drew ?_ | with_reducible refine Blk.ext ?_ (by assumption)))
  have X1 := hid (ext_step (ext_alloc (ext_alloc (ext_refl w) _) _) hb1)
  clear hb1
  have cP := P1.cell
  have cQ := Q1.cell
  have e0 : sameCtl a b = ((a.plan == b.plan) && (a.at_ == b.at_) && (a.phase == b.phase) && (a.replica == b.replica) && (a.round == b.round) && (cmpMix a.mix b.mix == 0)) := rfl
  have E0 := hid e0
  clear e0
  generalize a.at_ = x1 at *
  generalize b.at_ = y1 at *
  generalize a.phase = x2 at *
  generalize b.phase = y2 at *
  generalize a.replica = x3 at *
  generalize b.replica = y3 at *
  generalize a.round = x4 at *
  generalize b.round = y4 at *
  generalize (a.plan == b.plan) = q0 at *
  generalize hq1 : (x1 == y1) = q1 at *
  generalize hq2 : (x2 == y2) = q2 at *
  generalize hq3 : (x3 == y3) = q3 at *
  generalize hq4 : (x4 == y4) = q4 at *
  cases q0
  · go_wp2_with fail
    go_ret
    exact ⟨ret_bool (by rw [E0.out]; rfl), X1.out⟩
  cases q1
  · go_wp2_with fail
    go_ret
    exact ⟨ret_bool (by rw [E0.out]; rfl), X1.out⟩
  cases q2
  · go_wp2_with fail
    go_ret
    exact ⟨ret_bool (by rw [E0.out]; rfl), X1.out⟩
  cases q3
  · go_wp2_with fail
    go_ret
    exact ⟨ret_bool (by rw [E0.out]; rfl), X1.out⟩
  cases q4
  · go_wp2_with fail
    go_ret
    exact ⟨ret_bool (by rw [E0.out]; rfl), X1.out⟩
  go_wp2_with fail
  refine (mixCompare _ _ a.mix b.mix _ (A3.out.ext X1.out) (B3.out.ext X1.out)).mono ?_
  rintro e w2 ⟨rfl, hb2⟩
  go_wp2_with fail
  go_ret
  exact ⟨ret_bool (by rw [E0.out]; rfl), ext_step X1.out hb2⟩
def sameTok (a b : CtlD) : Bool := (a.plan == b.plan) && (a.at_ == b.at_) && (a.phase == b.phase) && (a.replica == b.replica) && (a.round == b.round) && (a.token == b.token) && (cmpMix a.mix b.mix == 0)
theorem same53 (av bv : Value) (a b : CtlD) (w : World) (ha : CtlAt w av a) (hb : CtlAt w bv b) (ra : Bytes a.mix.held) (rb : Bytes b.mix.held) (la : a.mix.held.length ≤ 1099511627776) (lb : b.mix.held.length ≤ 1099511627776) :
    Calls Try.prog 17 #[av, bv] w fun e w' => e = .returned (.bool (sameTok a b)) ∧ Below w.heap.size w w' := by
  obtain ⟨pA, pc, bA, bc, nA, nc, hA, hc, rfl, a1, a2, a3⟩ := ha
  obtain ⟨pB, pd, bB, bd, nB, nd, hB, hd, rfl, b1, b2, b3⟩ := hb
  have A1 := hid a1
  have A3 := hid a3
  have B1 := hid b1
  have B3 := hid b3
  clear a1 a3 b1 b3
  go_enter Try.func17, Try.ntmps17
  go_wp2_with fail
  refine (same37 _ _ _ _ _ _ _ (A1.out.ext (ext_alloc (ext_alloc (ext_refl _) _) _)) (B1.out.ext (ext_alloc (ext_alloc (ext_refl _) _) _)) a2 b2).mono ?_
  rintro e w1 ⟨rfl, hb1⟩
  have P1 : Blk w1 w.heap.size 36 #[.slice pA a.plan.length pc, .int .i64 a.at_, .int .i64 a.phase, .int .i64 a.replica, .int .i64 a.round, .int .i64 a.token, .slice bA a.mix.base.length bc, .slice nA a.mix.next.length nc, .slice hA a.mix.held.length hc] := by (repeat (first | assumption | (with_reducible refine Blk.new' ?_; simp; done) | with_reducible refine Blk.alloc ?_ _ | with_reducible refine Blk.drew ?_ | with_reducible refine Blk.ext ?_ (by assumption)))
  have Q1 : Blk w1 (w.heap.size + 1) 36 #[.slice pB b.plan.length pd, .int .i64 b.at_, .int .i64 b.phase, .int .i64 b.replica, .int .i64 b.round, .int .i64 b.token, .slice bB b.mix.base.length bd, .slice nB b.mix.next.length nd, .slice hB b.mix.held.length hd] := by (repeat (first | assumption | (with_reducible refine Blk.new' ?_; simp; done) | with_reducible refine Blk.alloc ?_ _ | with_reducible refine Blk.drew ?_ | with_reducible refine Blk.ext ?_ (by assumption)))
  have X1 := hid (ext_step (ext_alloc (ext_alloc (ext_refl w) _) _) hb1)
  clear hb1
  have cP := P1.cell
  have cQ := Q1.cell
  have e0 : sameTok a b = ((a.plan == b.plan) && (a.at_ == b.at_) && (a.phase == b.phase) && (a.replica == b.replica) && (a.round == b.round) && (a.token == b.token) && (cmpMix a.mix b.mix == 0)) := rfl
  have E0 := hid e0
  clear e0
  generalize a.at_ = x1 at *
  generalize b.at_ = y1 at *
  generalize a.phase = x2 at *
  generalize b.phase = y2 at *
  generalize a.replica = x3 at *
  generalize b.replica = y3 at *
  generalize a.round = x4 at *
  generalize b.round = y4 at *
  generalize a.token = x5 at *
  generalize b.token = y5 at *
  generalize (a.plan == b.plan) = q0 at *
  generalize hq1 : (x1 == y1) = q1 at *
  generalize hq2 : (x2 == y2) = q2 at *
  generalize hq3 : (x3 == y3) = q3 at *
  generalize hq4 : (x4 == y4) = q4 at *
  generalize hq5 : (x5 == y5) = q5 at *
  cases q0
  · go_wp2_with fail
    go_ret
    exact ⟨ret_bool (by rw [E0.out]; rfl), X1.out⟩
  cases q1
  · go_wp2_with fail
    go_ret
    exact ⟨ret_bool (by rw [E0.out]; rfl), X1.out⟩
  cases q2
  · go_wp2_with fail
    go_ret
    exact ⟨ret_bool (by rw [E0.out]; rfl), X1.out⟩
  cases q3
  · go_wp2_with fail
    go_ret
    exact ⟨ret_bool (by rw [E0.out]; rfl), X1.out⟩
  cases q4
  · go_wp2_with fail
    go_ret
    exact ⟨ret_bool (by rw [E0.out]; rfl), X1.out⟩
  cases q5
  · go_wp2_with fail
    go_ret
    exact ⟨ret_bool (by rw [E0.out]; rfl), X1.out⟩
  go_wp2_with fail
  refine (equal36 _ _ a.mix b.mix _ (A3.out.ext X1.out) (B3.out.ext X1.out) ra rb la lb).mono ?_
  rintro e w2 ⟨rfl, hb2⟩
  go_wp2_with fail
  go_ret
  exact ⟨ret_bool (by rw [E0.out]; rfl), ext_step X1.out hb2⟩
theorem same54 (av bv : Value) (a b : CtlD) (w : World) (ha : CtlAt w av a) (hb : CtlAt w bv b) (ra : Bytes a.mix.held) (rb : Bytes b.mix.held) (la : a.mix.held.length ≤ 1099511627776) (lb : b.mix.held.length ≤ 1099511627776) :
    Calls Try.prog 11 #[av, bv] w fun e w' => e = .returned (.bool (sameCtl a b)) ∧ Below w.heap.size w w' := by
  have HA := hid ha
  have HB := hid hb
  obtain ⟨pA, pc, bA, bc, nA, nc, hA, hc, rfl, a1, a2, a3⟩ := ha
  obtain ⟨pB, pd, bB, bd, nB, nd, hB, hd, rfl, b1, b2, b3⟩ := hb
  have A1 := hid a1
  have A3 := hid a3
  clear a1 a3 b1 b3
  go_enter Try.func11, Try.ntmps11
  go_wp2_with fail
  refine (same53 _ _ { a with token := b.token } b _ ⟨pA, pc, bA, bc, nA, nc, hA, hc, rfl, A1.out.ext (ext_alloc (ext_alloc (ext_refl _) _) _), a2, A3.out.ext (ext_alloc (ext_alloc (ext_refl _) _) _)⟩ (HB.out.ext (ext_alloc (ext_alloc (ext_refl _) _) _)) ra rb la lb).mono ?_
  rintro e w1 ⟨rfl, hb1⟩
  go_wp2_with fail
  go_ret
  exact ⟨ret_bool (by simp [sameTok, sameCtl]), ext_step (ext_alloc (ext_alloc (ext_refl _) _) _) hb1⟩
theorem few36 (v : Value) (m : MixD) (w : World) (hm : MixAt w v m) : Calls Try.prog 14 #[v] w fun e w' => e = .returned (.bool (decide (m.base.length ≤ 8 ∧ m.next.length ≤ 8 ∧ m.held.length ≤ 14))) ∧ Below w.heap.size w w' := by
  obtain ⟨bA, bc, nA, nc, hA, hc, rfl, a1, a2, a3, m0, m1, m2⟩ := hm
  clear a1 a2 a3
  go_enter Try.func14, Try.ntmps14
  go_wp2
  all_goals go_ret
  all_goals refine ⟨ret_bool ?_, ext_alloc (ext_refl _) _⟩
  all_goals (rw [Bool.eq_iff_iff]; simp; try omega)
theorem few54 (v : Value) (c : CtlD) (w : World) (hc : CtlAt w v c) : Calls Try.prog 9 #[v] w fun e w' => e = .returned (.bool (decide (c.plan.length ≤ 30 ∧ c.mix.base.length ≤ 8 ∧ c.mix.next.length ≤ 8 ∧ c.mix.held.length ≤ 14))) ∧ Below w.heap.size w w' := by
  obtain ⟨pA, pc, bA, bc, nA, nc, hA, hc, rfl, a1, a2, a3⟩ := hc
  have A3 := hid a3
  clear a1 a3
  by_cases g : c.plan.length ≤ 30
  · have g' : decide ((c.plan.length : Int) ≤ 30) = true := by simp; omega
    go_enter Try.func9, Try.ntmps9
    go_wp2_with fail
    refine (few36 _ c.mix _ (A3.out.ext (ext_alloc (ext_refl _) _))).mono ?_
    rintro e w1 ⟨rfl, hb1⟩
    go_wp2_with fail
    go_ret
    exact ⟨ret_bool (by simp [g]), ext_step (ext_alloc (ext_refl _) _) hb1⟩
  · have g' : decide ((c.plan.length : Int) ≤ 30) = false := by simp; omega
    go_enter Try.func9, Try.ntmps9
    go_wp2_with fail
    go_ret
    exact ⟨ret_bool (by simp [g]), ext_alloc (ext_refl _) _⟩
end Go.Proofs.Ytheklfcealopdaa
