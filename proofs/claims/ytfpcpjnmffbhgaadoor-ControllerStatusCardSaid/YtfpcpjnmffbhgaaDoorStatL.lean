/-
  The walk of the law ControllerStatus.
-/
import Derived.Test.YtfpcpjnmffbhgaaDoorStatS
import Derived.Test.YtfpcpjnmffbhgaaDoorAwake53
namespace Go.Proofs.YtfpcpjnmffbhgaaDoor
open Go Go.RowKit
set_option linter.unusedSimpArgs false
set_option linter.unusedVariables false
set_option maxHeartbeats 4000000
set_option maxRecDepth 20000
theorem statBoth (pA : Option Addr) (n pc : Nat) (a p r o k : Int) (v6 v7 v8 : Value) (w : World) (ht : TabW w) (hn : (n : Int) ≤ 9223372036854775807) (ha : -9223372036854775808 ≤ a ∧ a ≤ 9223372036854775807) (hr : -9223372036854775808 ≤ r ∧ r ≤ 9223372036854775807) (ho : -9223372036854775808 ≤ o ∧ o ≤ 9223372036854775807) (hk : -9223372036854775808 ≤ k ∧ k ≤ 9223372036854775807) :
    ∃ s, ∀ x : World, Below w.heap.size w x →
      (Calls Tryd.prog 5 #[.agg #[.slice pA n pc, .int .i64 a, .int .i64 p, .int .i64 r, .int .i64 o, .int .i64 k, v6, v7, v8]] x fun e w' => e = .returned (.string s) ∧ Below x.heap.size x w') ∧
      (Calls Tryd.prog 6 #[.agg #[.slice pA n pc, .int .i64 a, .int .i64 p, .int .i64 r, .int .i64 o, .int .i64 k, v6, v7, v8]] x fun e w' => e = .returned (.string s) ∧ Below x.heap.size x w') := by
  by_cases h0 : p < 0
  · exact ⟨_, fun x hx => ⟨stPneg pA n pc a r o k v6 v7 v8 p h0 x (TabIs_ext ht hx) hn ha hr ho hk, stRneg pA n pc a r o k v6 v7 v8 p h0 x hn ha hr ho hk⟩⟩
  by_cases h7 : 7 ≤ p
  · exact ⟨_, fun x hx => ⟨stPbig pA n pc a r o k v6 v7 v8 p h7 x (TabIs_ext ht hx) hn ha hr ho hk, stRbig pA n pc a r o k v6 v7 v8 p h7 x hn ha hr ho hk⟩⟩
  obtain rfl | rfl | rfl | rfl | rfl | rfl | rfl : p = 0 ∨ p = 1 ∨ p = 2 ∨ p = 3 ∨ p = 4 ∨ p = 5 ∨ p = 6 := by omega
  · exact ⟨_, fun x hx => ⟨stP0 pA n pc a r o k v6 v7 v8 x (TabIs_ext ht hx) hn ha hr ho hk, stR0 pA n pc a r o k v6 v7 v8 x hn ha hr ho hk⟩⟩
  · exact ⟨_, fun x hx => ⟨stP1 pA n pc a r o k v6 v7 v8 x (TabIs_ext ht hx) hn ha hr ho hk, stR1 pA n pc a r o k v6 v7 v8 x hn ha hr ho hk⟩⟩
  · exact ⟨_, fun x hx => ⟨stP2 pA n pc a r o k v6 v7 v8 x (TabIs_ext ht hx) hn ha hr ho hk, stR2 pA n pc a r o k v6 v7 v8 x hn ha hr ho hk⟩⟩
  · exact ⟨_, fun x hx => ⟨stP3 pA n pc a r o k v6 v7 v8 x (TabIs_ext ht hx) hn ha hr ho hk, stR3 pA n pc a r o k v6 v7 v8 x hn ha hr ho hk⟩⟩
  · exact ⟨_, fun x hx => ⟨stP4 pA n pc a r o k v6 v7 v8 x (TabIs_ext ht hx) hn ha hr ho hk, stR4 pA n pc a r o k v6 v7 v8 x hn ha hr ho hk⟩⟩
  · exact ⟨_, fun x hx => ⟨stP5 pA n pc a r o k v6 v7 v8 x (TabIs_ext ht hx) hn ha hr ho hk, stR5 pA n pc a r o k v6 v7 v8 x hn ha hr ho hk⟩⟩
  · exact ⟨_, fun x hx => ⟨stP6 pA n pc a r o k v6 v7 v8 x (TabIs_ext ht hx) hn ha hr ho hk, stR6 pA n pc a r o k v6 v7 v8 x hn ha hr ho hk⟩⟩
theorem status_law (pA : Option Addr) (n pc : Nat) (a p r o k : Int) (v6 v7 v8 : Value) (w : World) (ht : TabW w) (hn : (n : Int) ≤ 9223372036854775807) (ha : -9223372036854775808 ≤ a ∧ a ≤ 9223372036854775807) (hr : -9223372036854775808 ≤ r ∧ r ≤ 9223372036854775807) (ho : -9223372036854775808 ≤ o ∧ o ≤ 9223372036854775807) (hk : -9223372036854775808 ≤ k ∧ k ≤ 9223372036854775807) :
    Calls Tryd.prog 3 #[.agg #[.slice pA n pc, .int .i64 a, .int .i64 p, .int .i64 r, .int .i64 o, .int .i64 k, v6, v7, v8]] w fun e w' => e = .returned (.bool true) ∧ Below w.heap.size w w' := by
  obtain ⟨s, hS⟩ := statBoth pA n pc a p r o k v6 v7 v8 w ht hn ha hr ho hk
  have HS := hid hS
  clear hS ht ha hr ho hk
  go_enter Tryd.func3, Tryd.ntmps3
  go_wp2_with fail
  have X0 : Below w.heap.size w (w.alloc (.cells #[.slice pA n pc, .int .i64 a, .int .i64 p, .int .i64 r, .int .i64 o, .int .i64 k, v6, v7, v8] 28)) := ext_alloc (ext_refl w) _
  have P0 : Blk (w.alloc (.cells #[.slice pA n pc, .int .i64 a, .int .i64 p, .int .i64 r, .int .i64 o, .int .i64 k, v6, v7, v8] 28)) w.heap.size 28 #[.slice pA n pc, .int .i64 a, .int .i64 p, .int .i64 r, .int .i64 o, .int .i64 k, v6, v7, v8] := Blk.new _ _ _
  generalize (w.alloc (.cells #[.slice pA n pc, .int .i64 a, .int .i64 p, .int .i64 r, .int .i64 o, .int .i64 k, v6, v7, v8] 28)) = W0 at X0 P0 ⊢
  refine (awake_true _).mono ?_
  rintro e w1 ⟨rfl, hb1⟩
  have P1 := P0.ext hb1
  have X1 := hid (ext_step X0 hb1)
  clear P0 X0 hb1
  have cP1 := P1.cell
  by_cases h20 : (20 : Int) < n
  · go_wp2_with fail
    refine (awake_true _).mono ?_
    rintro e w2 ⟨rfl, hb2⟩
    go_wp2_with fail
    go_ret
    exact ⟨rfl, ext_step X1.out hb2⟩
  · go_wp2_with fail
    clear cP1
    have F1 : ∀ x : World, Below w1.heap.size w1 x → Calls Tryd.prog 5 #[.agg #[.slice pA n pc, .int .i64 a, .int .i64 p, .int .i64 r, .int .i64 o, .int .i64 k, v6, v7, v8]] x fun e w' => e = .returned (.string s) ∧ Below x.heap.size x w' := fun x hx => (HS.out x (ext_step X1.out hx)).1
    have F2 : ∀ x : World, Below w1.heap.size w1 x → Calls Tryd.prog 6 #[.agg #[.slice pA n pc, .int .i64 a, .int .i64 p, .int .i64 r, .int .i64 o, .int .i64 k, v6, v7, v8]] x fun e w' => e = .returned (.string s) ∧ Below x.heap.size x w' := fun x hx => (HS.out x (ext_step X1.out hx)).2
    have cP := gr_blk P1
    refine wp_region_gr (by kernel_rfl) (by kernel_rfl) ?_
    repeat (go_big_quiet_step (first | (go_at_call 5; with_reducible exact gr_of (F1 _ (Gr.ok _))) | (go_at_call 6; with_reducible exact gr_of (F2 _ (Gr.ok _)))))
    refine wpQuiet_nil ?_
    intro w2 hw'
    have hb2 := gr_out hw'
    clear hw'
    go_wp2_with fail
    go_ret
    exact ⟨rfl, ext_step X1.out hb2⟩
end Go.Proofs.YtfpcpjnmffbhgaaDoor
