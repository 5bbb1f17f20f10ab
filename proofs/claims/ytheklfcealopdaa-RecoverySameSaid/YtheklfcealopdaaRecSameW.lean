/-
  The walk of the law RecoverySame.
-/
import Derived.Test.YtheklfcealopdaaAwake
import Derived.Test.YtheklfcealopdaaCtl
namespace Go.Proofs.Ytheklfcealopdaa
open Go.RowKit
set_option linter.unusedSimpArgs false
set_option linter.unusedVariables false
set_option maxHeartbeats 4000000
set_option maxRecDepth 100000
def ctlVal (c : CtlD) (pA : Option Addr) (pc : Nat) (bA : Option Addr) (bc : Nat) (nA : Option Addr) (nc : Nat) (hA : Option Addr) (hc : Nat) : Array Value :=
  #[.slice pA c.plan.length pc, .int .i64 c.at_, .int .i64 c.phase, .int .i64 c.replica, .int .i64 c.round, .int .i64 c.token, .slice bA c.mix.base.length bc, .slice nA c.mix.next.length nc, .slice hA c.mix.held.length hc]
theorem cmpInts_self : ∀ xs : List Int, cmpInts xs xs = 0
  | [] => rfl
  | x :: xs => by unfold cmpInts; rw [cmp1_eq (Int.lt_irrefl x) (Int.lt_irrefl x), if_neg (fun h => h rfl)]; exact cmpInts_self xs
theorem sameCtl_tok (a : CtlD) (t : Int) : sameCtl a { a with token := t } = true := by
  simp [sameCtl, cmpMix, cmpInts_self]
theorem recSame_law (av bv : Value) (a b : CtlD) (w : World) (ha : CtlAt w av a) (hb : CtlAt w bv b) (ra : Bytes a.mix.held) (rb : Bytes b.mix.held) : Calls Try.prog 4 #[av, bv] w fun e w' => e = .returned (.bool true) ∧ Below w.heap.size w w' := by
  have HA := hid ha
  have HB := hid hb
  obtain ⟨pA, pc, bA, bc, nA, nc, hA, hc, rfl, a1, a2, a3⟩ := ha
  obtain ⟨pB, pd, bB, bd, nB, nd, hB, hd, rfl, b1, b2, b3⟩ := hb
  have HC : Hid (CtlAt w (.agg #[.slice pA a.plan.length pc, .int .i64 a.at_, .int .i64 a.phase, .int .i64 a.replica, .int .i64 a.round, .int .i64 (wrap64 (a.token + 1)), .slice bA a.mix.base.length bc, .slice nA a.mix.next.length nc, .slice hA a.mix.held.length hc]) { a with token := wrap64 (a.token + 1) }) := ⟨pA, pc, bA, bc, nA, nc, hA, hc, rfl, a1, a2, a3⟩
  clear a1 a3 b1 b3
  go_enter Try.func4, Try.ntmps4
  go_wp2_with fail
  have X0 := hid (ext_alloc (ext_alloc (ext_refl w) (.cells #[.slice pA a.plan.length pc, .int .i64 a.at_, .int .i64 a.phase, .int .i64 a.replica, .int .i64 a.round, .int .i64 a.token, .slice bA a.mix.base.length bc, .slice nA a.mix.next.length nc, .slice hA a.mix.held.length hc] 36)) (.cells #[.slice pB b.plan.length pd, .int .i64 b.at_, .int .i64 b.phase, .int .i64 b.replica, .int .i64 b.round, .int .i64 b.token, .slice bB b.mix.base.length bd, .slice nB b.mix.next.length nd, .slice hB b.mix.held.length hd] 36))
  have P0 : Blk ((w.alloc (.cells #[.slice pA a.plan.length pc, .int .i64 a.at_, .int .i64 a.phase, .int .i64 a.replica, .int .i64 a.round, .int .i64 a.token, .slice bA a.mix.base.length bc, .slice nA a.mix.next.length nc, .slice hA a.mix.held.length hc] 36)).alloc (.cells #[.slice pB b.plan.length pd, .int .i64 b.at_, .int .i64 b.phase, .int .i64 b.replica, .int .i64 b.round, .int .i64 b.token, .slice bB b.mix.base.length bd, .slice nB b.mix.next.length nd, .slice hB b.mix.held.length hd] 36)) w.heap.size 36 #[.slice pA a.plan.length pc, .int .i64 a.at_, .int .i64 a.phase, .int .i64 a.replica, .int .i64 a.round, .int .i64 a.token, .slice bA a.mix.base.length bc, .slice nA a.mix.next.length nc, .slice hA a.mix.held.length hc] := by (repeat (first | assumption | (with_reducible refine Blk.new' ?_; simp; done) | with_reducible refine Blk.alloc ?_ _ | with_reducible refine Blk.drew ?_ | with_reducible refine Blk.ext ?_ (by assumption)))
  have Q0 : Blk ((w.alloc (.cells #[.slice pA a.plan.length pc, .int .i64 a.at_, .int .i64 a.phase, .int .i64 a.replica, .int .i64 a.round, .int .i64 a.token, .slice bA a.mix.base.length bc, .slice nA a.mix.next.length nc, .slice hA a.mix.held.length hc] 36)).alloc (.cells #[.slice pB b.plan.length pd, .int .i64 b.at_, .int .i64 b.phase, .int .i64 b.replica, .int .i64 b.round, .int .i64 b.token, .slice bB b.mix.base.length bd, .slice nB b.mix.next.length nd, .slice hB b.mix.held.length hd] 36)) (w.heap.size + 1) 36 #[.slice pB b.plan.length pd, .int .i64 b.at_, .int .i64 b.phase, .int .i64 b.replica, .int .i64 b.round, .int .i64 b.token, .slice bB b.mix.base.length bd, .slice nB b.mix.next.length nd, .slice hB b.mix.held.length hd] := by (repeat (first | assumption | (with_reducible refine Blk.new' ?_; simp; done) | with_reducible refine Blk.alloc ?_ _ | with_reducible refine Blk.drew ?_ | with_reducible refine Blk.ext ?_ (by assumption)))
  have Z0 : ((w.alloc (.cells #[.slice pA a.plan.length pc, .int .i64 a.at_, .int .i64 a.phase, .int .i64 a.replica, .int .i64 a.round, .int .i64 a.token, .slice bA a.mix.base.length bc, .slice nA a.mix.next.length nc, .slice hA a.mix.held.length hc] 36)).alloc (.cells #[.slice pB b.plan.length pd, .int .i64 b.at_, .int .i64 b.phase, .int .i64 b.replica, .int .i64 b.round, .int .i64 b.token, .slice bB b.mix.base.length bd, .slice nB b.mix.next.length nd, .slice hB b.mix.held.length hd] 36)).heap.size = w.heap.size + 2 := by simp
  generalize ((w.alloc (.cells #[.slice pA a.plan.length pc, .int .i64 a.at_, .int .i64 a.phase, .int .i64 a.replica, .int .i64 a.round, .int .i64 a.token, .slice bA a.mix.base.length bc, .slice nA a.mix.next.length nc, .slice hA a.mix.held.length hc] 36)).alloc (.cells #[.slice pB b.plan.length pd, .int .i64 b.at_, .int .i64 b.phase, .int .i64 b.replica, .int .i64 b.round, .int .i64 b.token, .slice bB b.mix.base.length bd, .slice nB b.mix.next.length nd, .slice hB b.mix.held.length hd] 36)) = w0 at X0 P0 Q0 Z0 ⊢
  refine (awake_true _).mono ?_
  rintro e w1 ⟨rfl, hb1⟩
  have P1 := P0.ext hb1
  have Q1 := Q0.ext hb1
  have X1 := hid (ext_step X0.out hb1)
  have z1 := hb1.size
  clear P0 Q0 X0 hb1
  have cP1 := P1.cell
  have cQ1 := Q1.cell
  go_wp2_with fail
  refine (few54 _ a _ (HA.out.ext X1.out)).mono ?_
  rintro e w2 ⟨rfl, hb2⟩
  have P2 := P1.ext hb2
  have Q2 := Q1.ext hb2
  have X2 := hid (ext_step X1.out hb2)
  have z2 := hb2.size
  clear P1 Q1 X1 hb2 cP1 cQ1
  have cP2 := P2.cell
  have cQ2 := Q2.cell
  have HFa : Hid (decide (a.plan.length ≤ 30 ∧ a.mix.base.length ≤ 8 ∧ a.mix.next.length ≤ 8 ∧ a.mix.held.length ≤ 14) = true → a.mix.held.length ≤ 14) := fun h => by have := of_decide_eq_true h; omega
  generalize decide (a.plan.length ≤ 30 ∧ a.mix.base.length ≤ 8 ∧ a.mix.next.length ≤ 8 ∧ a.mix.held.length ≤ 14) = fa at HFa ⊢
  cases fa with
  | false =>
    go_wp2_with fail
    refine (awake_true _).mono ?_
    rintro e w3 ⟨rfl, hb3⟩
    go_wp2_with fail
    go_ret
    exact ⟨rfl, ext_step X2.out hb3⟩
  | true =>
    go_wp2_with fail
    refine (few54 _ b _ (HB.out.ext X2.out)).mono ?_
    rintro e w3 ⟨rfl, hb3⟩
    have P3 := P2.ext hb3
    have Q3 := Q2.ext hb3
    have X3 := hid (ext_step X2.out hb3)
    have z3 := hb3.size
    clear P2 Q2 X2 hb3 cP2 cQ2
    have cP3 := P3.cell
    have cQ3 := Q3.cell
    have HFb : Hid (decide (b.plan.length ≤ 30 ∧ b.mix.base.length ≤ 8 ∧ b.mix.next.length ≤ 8 ∧ b.mix.held.length ≤ 14) = true → b.mix.held.length ≤ 14) := fun h => by have := of_decide_eq_true h; omega
    generalize decide (b.plan.length ≤ 30 ∧ b.mix.base.length ≤ 8 ∧ b.mix.next.length ≤ 8 ∧ b.mix.held.length ≤ 14) = fb at HFb ⊢
    cases fb with
    | false =>
      go_wp2_with fail
      refine (awake_true _).mono ?_
      rintro e w4 ⟨rfl, hb4⟩
      go_wp2_with fail
      go_ret
      exact ⟨rfl, ext_step X3.out hb4⟩
    | true =>
      have la := HFa.out trivial
      have lb := HFb.out rfl
      have q0 : w.heap.size < w3.heap.size := by omega
      have q1 : w.heap.size + 1 < w3.heap.size := by omega
      go_upto_region 5 with (fail)
      have X4 := hid (ext_alloc X3.out (.cells #[.slice pA a.plan.length pc, .int .i64 a.at_, .int .i64 a.phase, .int .i64 a.replica, .int .i64 a.round, .int .i64 (wrap64 (a.token + 1)), .slice bA a.mix.base.length bc, .slice nA a.mix.next.length nc, .slice hA a.mix.held.length hc] 36))
      have P4 := P3.alloc (.cells #[.slice pA a.plan.length pc, .int .i64 a.at_, .int .i64 a.phase, .int .i64 a.replica, .int .i64 a.round, .int .i64 (wrap64 (a.token + 1)), .slice bA a.mix.base.length bc, .slice nA a.mix.next.length nc, .slice hA a.mix.held.length hc] 36)
      have Q4 := Q3.alloc (.cells #[.slice pA a.plan.length pc, .int .i64 a.at_, .int .i64 a.phase, .int .i64 a.replica, .int .i64 a.round, .int .i64 (wrap64 (a.token + 1)), .slice bA a.mix.base.length bc, .slice nA a.mix.next.length nc, .slice hA a.mix.held.length hc] 36)
      have C4 : Blk (w3.alloc (.cells #[.slice pA a.plan.length pc, .int .i64 a.at_, .int .i64 a.phase, .int .i64 a.replica, .int .i64 a.round, .int .i64 (wrap64 (a.token + 1)), .slice bA a.mix.base.length bc, .slice nA a.mix.next.length nc, .slice hA a.mix.held.length hc] 36)) w3.heap.size 36 #[.slice pA a.plan.length pc, .int .i64 a.at_, .int .i64 a.phase, .int .i64 a.replica, .int .i64 a.round, .int .i64 (wrap64 (a.token + 1)), .slice bA a.mix.base.length bc, .slice nA a.mix.next.length nc, .slice hA a.mix.held.length hc] := Blk.new _ _ _
      generalize (w3.alloc (.cells #[.slice pA a.plan.length pc, .int .i64 a.at_, .int .i64 a.phase, .int .i64 a.replica, .int .i64 a.round, .int .i64 (wrap64 (a.token + 1)), .slice bA a.mix.base.length bc, .slice nA a.mix.next.length nc, .slice hA a.mix.held.length hc] 36)) = w4 at X4 P4 Q4 C4 ⊢
      clear cP3 cQ3 P3 Q3
      have F3 : ∀ x : World, Below w4.heap.size w4 x → Calls Try.prog 10 #[.agg #[.slice pA a.plan.length pc, .int .i64 a.at_, .int .i64 a.phase, .int .i64 a.replica, .int .i64 a.round, .int .i64 a.token, .slice bA a.mix.base.length bc, .slice nA a.mix.next.length nc, .slice hA a.mix.held.length hc], .agg #[.slice pA a.plan.length pc, .int .i64 a.at_, .int .i64 a.phase, .int .i64 a.replica, .int .i64 a.round, .int .i64 (wrap64 (a.token + 1)), .slice bA a.mix.base.length bc, .slice nA a.mix.next.length nc, .slice hA a.mix.held.length hc]] x fun e w' => e = .returned (.bool true) ∧ Below x.heap.size x w' := fun x hx => by
        have := recSame _ _ a { a with token := wrap64 (a.token + 1) } x (HA.out.ext (ext_step X4.out hx)) (HC.out.ext (ext_step X4.out hx))
        rwa [sameCtl_tok] at this
      cases hs : sameCtl a b with
      | true =>
        have F1 : ∀ x : World, Below w4.heap.size w4 x → Calls Try.prog 10 #[.agg #[.slice pA a.plan.length pc, .int .i64 a.at_, .int .i64 a.phase, .int .i64 a.replica, .int .i64 a.round, .int .i64 a.token, .slice bA a.mix.base.length bc, .slice nA a.mix.next.length nc, .slice hA a.mix.held.length hc], .agg #[.slice pB b.plan.length pd, .int .i64 b.at_, .int .i64 b.phase, .int .i64 b.replica, .int .i64 b.round, .int .i64 b.token, .slice bB b.mix.base.length bd, .slice nB b.mix.next.length nd, .slice hB b.mix.held.length hd]] x fun e w' => e = .returned (.bool true) ∧ Below x.heap.size x w' := fun x hx => by
          have := recSame _ _ a b x (HA.out.ext (ext_step X4.out hx)) (HB.out.ext (ext_step X4.out hx))
          rwa [hs] at this
        have F2 : ∀ x : World, Below w4.heap.size w4 x → Calls Try.prog 11 #[.agg #[.slice pA a.plan.length pc, .int .i64 a.at_, .int .i64 a.phase, .int .i64 a.replica, .int .i64 a.round, .int .i64 a.token, .slice bA a.mix.base.length bc, .slice nA a.mix.next.length nc, .slice hA a.mix.held.length hc], .agg #[.slice pB b.plan.length pd, .int .i64 b.at_, .int .i64 b.phase, .int .i64 b.replica, .int .i64 b.round, .int .i64 b.token, .slice bB b.mix.base.length bd, .slice nB b.mix.next.length nd, .slice hB b.mix.held.length hd]] x fun e w' => e = .returned (.bool true) ∧ Below x.heap.size x w' := fun x hx => by
          have := same54 _ _ a b x (HA.out.ext (ext_step X4.out hx)) (HB.out.ext (ext_step X4.out hx)) ra rb (by omega) (by omega)
          rwa [hs] at this
        have cP := gr_blk P4
        have cQ := gr_blk Q4
        have cC := gr_blk C4
        refine wp_region_gr (by kernel_rfl) (by kernel_rfl) ?_
        repeat (go_big_quiet_step (first | (go_at_call 11; with_reducible exact gr_of (F2 _ (Gr.ok _))) | (go_at_call 10; with_reducible exact gr_of (F1 _ (Gr.ok _))) | (go_at_call 10; with_reducible exact gr_of (F3 _ (Gr.ok _)))))
        refine wpQuiet_nil ?_
        intro w5 hw'
        have hb5 := gr_out hw'
        clear hw'
        go_wp2_with fail
        go_ret
        exact ⟨rfl, ext_step X4.out hb5⟩
      | false =>
        have F1 : ∀ x : World, Below w4.heap.size w4 x → Calls Try.prog 10 #[.agg #[.slice pA a.plan.length pc, .int .i64 a.at_, .int .i64 a.phase, .int .i64 a.replica, .int .i64 a.round, .int .i64 a.token, .slice bA a.mix.base.length bc, .slice nA a.mix.next.length nc, .slice hA a.mix.held.length hc], .agg #[.slice pB b.plan.length pd, .int .i64 b.at_, .int .i64 b.phase, .int .i64 b.replica, .int .i64 b.round, .int .i64 b.token, .slice bB b.mix.base.length bd, .slice nB b.mix.next.length nd, .slice hB b.mix.held.length hd]] x fun e w' => e = .returned (.bool false) ∧ Below x.heap.size x w' := fun x hx => by
          have := recSame _ _ a b x (HA.out.ext (ext_step X4.out hx)) (HB.out.ext (ext_step X4.out hx))
          rwa [hs] at this
        have F2 : ∀ x : World, Below w4.heap.size w4 x → Calls Try.prog 11 #[.agg #[.slice pA a.plan.length pc, .int .i64 a.at_, .int .i64 a.phase, .int .i64 a.replica, .int .i64 a.round, .int .i64 a.token, .slice bA a.mix.base.length bc, .slice nA a.mix.next.length nc, .slice hA a.mix.held.length hc], .agg #[.slice pB b.plan.length pd, .int .i64 b.at_, .int .i64 b.phase, .int .i64 b.replica, .int .i64 b.round, .int .i64 b.token, .slice bB b.mix.base.length bd, .slice nB b.mix.next.length nd, .slice hB b.mix.held.length hd]] x fun e w' => e = .returned (.bool false) ∧ Below x.heap.size x w' := fun x hx => by
          have := same54 _ _ a b x (HA.out.ext (ext_step X4.out hx)) (HB.out.ext (ext_step X4.out hx)) ra rb (by omega) (by omega)
          rwa [hs] at this
        have cP := gr_blk P4
        have cQ := gr_blk Q4
        have cC := gr_blk C4
        refine wp_region_gr (by kernel_rfl) (by kernel_rfl) ?_
        repeat (go_big_quiet_step (first | (go_at_call 11; with_reducible exact gr_of (F2 _ (Gr.ok _))) | (go_at_call 10; with_reducible exact gr_of (F1 _ (Gr.ok _))) | (go_at_call 10; with_reducible exact gr_of (F3 _ (Gr.ok _)))))
        refine wpQuiet_nil ?_
        intro w5 hw'
        have hb5 := gr_out hw'
        clear hw'
        go_wp2_with fail
        go_ret
        exact ⟨rfl, ext_step X4.out hb5⟩
end Go.Proofs.Ytheklfcealopdaa
