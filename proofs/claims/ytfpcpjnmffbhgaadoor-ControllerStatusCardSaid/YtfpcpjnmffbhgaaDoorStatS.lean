/-
  The texts of states: the program's and the reference's are the same. Printed by wip/tools/mkstat.py.
-/
import Derived.Test.YtfpcpjnmffbhgaaDoorStatW
namespace Go.Proofs.YtfpcpjnmffbhgaaDoor
open Go Go.RowKit
set_option linter.unusedSimpArgs false
set_option linter.unusedVariables false
set_option maxHeartbeats 4000000
set_option maxRecDepth 20000
def statOf (wd : ByteArray) (a l r o k : Int) : ByteArray := ((((((((((txt a ++ ⟨#[47]⟩) ++ txt l) ++ ⟨#[32]⟩) ++ wd) ++ ⟨#[32]⟩) ++ txt r) ++ ⟨#[32]⟩) ++ txt o) ++ ⟨#[32]⟩) ++ txt k)
theorem stP0 (pA : Option Addr) (n pc : Nat) (a r o k : Int) (v6 v7 v8 : Value) (w : World) (ht : TabW w) (hn : (n : Int) ≤ 9223372036854775807) (ha : -9223372036854775808 ≤ a ∧ a ≤ 9223372036854775807) (hr : -9223372036854775808 ≤ r ∧ r ≤ 9223372036854775807) (ho : -9223372036854775808 ≤ o ∧ o ≤ 9223372036854775807) (hk : -9223372036854775808 ≤ k ∧ k ≤ 9223372036854775807) :
    Calls Tryd.prog 5 #[.agg #[.slice pA n pc, .int .i64 a, .int .i64 0, .int .i64 r, .int .i64 o, .int .i64 k, v6, v7, v8]] w fun e w' => e = .returned (.string (statOf ⟨#[105, 100, 108, 101]⟩ a n r o k)) ∧ Below w.heap.size w w' := by
  have sa := txt_size ha
  have sr := txt_size hr
  have so := txt_size ho
  have sk := txt_size hk
  have sn := txt_size (n := (n : Int)) ⟨by omega, hn⟩
  go_enter Tryd.func5, Tryd.ntmps5
  go_wp2_with fail
  have X0 : Below w.heap.size w ((w.alloc (.cells #[.slice pA n pc, .int .i64 a, .int .i64 0, .int .i64 r, .int .i64 o, .int .i64 k, v6, v7, v8] 28)).alloc (.cells (#[.string ⟨#[105, 100, 108, 101]⟩, .string ⟨#[99, 111, 109, 109, 97, 110, 100]⟩, .string ⟨#[112, 114, 111, 98, 101]⟩, .string ⟨#[117, 110, 100, 111]⟩, .string ⟨#[99, 108, 101, 97, 114]⟩, .string ⟨#[102, 97, 105, 108, 101, 100]⟩, .string ⟨#[102, 105, 110, 105, 115, 104, 101, 100]⟩]) 9)) := ext_alloc (ext_alloc (ext_refl w) (.cells #[.slice pA n pc, .int .i64 a, .int .i64 0, .int .i64 r, .int .i64 o, .int .i64 k, v6, v7, v8] 28)) (.cells (#[.string ⟨#[105, 100, 108, 101]⟩, .string ⟨#[99, 111, 109, 109, 97, 110, 100]⟩, .string ⟨#[112, 114, 111, 98, 101]⟩, .string ⟨#[117, 110, 100, 111]⟩, .string ⟨#[99, 108, 101, 97, 114]⟩, .string ⟨#[102, 97, 105, 108, 101, 100]⟩, .string ⟨#[102, 105, 110, 105, 115, 104, 101, 100]⟩]) 9)
  have P0 : Blk ((w.alloc (.cells #[.slice pA n pc, .int .i64 a, .int .i64 0, .int .i64 r, .int .i64 o, .int .i64 k, v6, v7, v8] 28)).alloc (.cells (#[.string ⟨#[105, 100, 108, 101]⟩, .string ⟨#[99, 111, 109, 109, 97, 110, 100]⟩, .string ⟨#[112, 114, 111, 98, 101]⟩, .string ⟨#[117, 110, 100, 111]⟩, .string ⟨#[99, 108, 101, 97, 114]⟩, .string ⟨#[102, 97, 105, 108, 101, 100]⟩, .string ⟨#[102, 105, 110, 105, 115, 104, 101, 100]⟩]) 9)) w.heap.size 28 #[.slice pA n pc, .int .i64 a, .int .i64 0, .int .i64 r, .int .i64 o, .int .i64 k, v6, v7, v8] := by (repeat (first | assumption | (with_reducible refine Blk.new' ?_; simp; done) | with_reducible refine Blk.alloc ?_ _ | with_reducible refine Blk.drew ?_ | with_reducible refine Blk.ext ?_ (by assumption)))
  generalize ((w.alloc (.cells #[.slice pA n pc, .int .i64 a, .int .i64 0, .int .i64 r, .int .i64 o, .int .i64 k, v6, v7, v8] 28)).alloc (.cells (#[.string ⟨#[105, 100, 108, 101]⟩, .string ⟨#[99, 111, 109, 109, 97, 110, 100]⟩, .string ⟨#[112, 114, 111, 98, 101]⟩, .string ⟨#[117, 110, 100, 111]⟩, .string ⟨#[99, 108, 101, 97, 114]⟩, .string ⟨#[102, 97, 105, 108, 101, 100]⟩, .string ⟨#[102, 105, 110, 105, 115, 104, 101, 100]⟩]) 9)) = W0 at X0 P0 ⊢
  have T0 := TabIs_ext ht X0
  have X0 := hid X0
  have Fa : ∀ x : World, Below W0.heap.size W0 x → Calls Tryd.prog 11 #[.int .i64 a] x fun e w' => e = .returned (.string (txt a)) ∧ Below x.heap.size x w' := fun x hx => itoaC a ha x (TabIs_ext T0 hx)
  have Fn : ∀ x : World, Below W0.heap.size W0 x → Calls Tryd.prog 11 #[.int .i64 n] x fun e w' => e = .returned (.string (txt n)) ∧ Below x.heap.size x w' := fun x hx => itoaC n ⟨by omega, hn⟩ x (TabIs_ext T0 hx)
  have cP := gr_blk P0
  refine wp_region_gr (by kernel_rfl) (by kernel_rfl) ?_
  repeat (go_big_quiet_step (first | (go_at_call 11; with_reducible exact gr_of (Fa _ (Gr.ok _))) | (go_at_call 11; with_reducible exact gr_of (Fn _ (Gr.ok _)))))
  refine wpQuiet_nil ?_
  intro w1 hw'
  have hb1 := gr_out hw'
  clear hw'
  clear cP Fa Fn
  have T1 := TabIs_ext T0 hb1
  have P1 := P0.ext hb1
  have X1 := hid (ext_step X0.out hb1)
  clear hb1 T0 P0 X0
  have Fr : ∀ x : World, Below w1.heap.size w1 x → Calls Tryd.prog 11 #[.int .i64 r] x fun e w' => e = .returned (.string (txt r)) ∧ Below x.heap.size x w' := fun x hx => itoaC r hr x (TabIs_ext T1 hx)
  have Fo : ∀ x : World, Below w1.heap.size w1 x → Calls Tryd.prog 11 #[.int .i64 o] x fun e w' => e = .returned (.string (txt o)) ∧ Below x.heap.size x w' := fun x hx => itoaC o ho x (TabIs_ext T1 hx)
  have Fk : ∀ x : World, Below w1.heap.size w1 x → Calls Tryd.prog 12 #[.int .i64 k, .int .i64 10] x fun e w' => e = .returned (.string (txt k)) ∧ Below x.heap.size x w' := fun x hx => fmtC k hk x (TabIs_ext T1 hx)
  have cP := gr_blk P1
  try go_wp2_with fail
  refine wp_region_gr (by kernel_rfl) (by kernel_rfl) ?_
  repeat (go_big_quiet_step (first | (go_at_call 12; with_reducible exact gr_of (Fk _ (Gr.ok _))) | (go_at_call 11; with_reducible exact gr_of (Fr _ (Gr.ok _))) | (go_at_call 11; with_reducible exact gr_of (Fo _ (Gr.ok _)))))
  refine wpQuiet_nil ?_
  intro w2 hw'
  have hb2 := gr_out hw'
  clear hw'
  have X2 := ext_step X1.out hb2
  go_wp2_with fail
  go_ret
  exact ⟨rfl, X2⟩
theorem stP1 (pA : Option Addr) (n pc : Nat) (a r o k : Int) (v6 v7 v8 : Value) (w : World) (ht : TabW w) (hn : (n : Int) ≤ 9223372036854775807) (ha : -9223372036854775808 ≤ a ∧ a ≤ 9223372036854775807) (hr : -9223372036854775808 ≤ r ∧ r ≤ 9223372036854775807) (ho : -9223372036854775808 ≤ o ∧ o ≤ 9223372036854775807) (hk : -9223372036854775808 ≤ k ∧ k ≤ 9223372036854775807) :
    Calls Tryd.prog 5 #[.agg #[.slice pA n pc, .int .i64 a, .int .i64 1, .int .i64 r, .int .i64 o, .int .i64 k, v6, v7, v8]] w fun e w' => e = .returned (.string (statOf ⟨#[99, 111, 109, 109, 97, 110, 100]⟩ a n r o k)) ∧ Below w.heap.size w w' := by
  have sa := txt_size ha
  have sr := txt_size hr
  have so := txt_size ho
  have sk := txt_size hk
  have sn := txt_size (n := (n : Int)) ⟨by omega, hn⟩
  go_enter Tryd.func5, Tryd.ntmps5
  go_wp2_with fail
  have X0 : Below w.heap.size w ((w.alloc (.cells #[.slice pA n pc, .int .i64 a, .int .i64 1, .int .i64 r, .int .i64 o, .int .i64 k, v6, v7, v8] 28)).alloc (.cells (#[.string ⟨#[105, 100, 108, 101]⟩, .string ⟨#[99, 111, 109, 109, 97, 110, 100]⟩, .string ⟨#[112, 114, 111, 98, 101]⟩, .string ⟨#[117, 110, 100, 111]⟩, .string ⟨#[99, 108, 101, 97, 114]⟩, .string ⟨#[102, 97, 105, 108, 101, 100]⟩, .string ⟨#[102, 105, 110, 105, 115, 104, 101, 100]⟩]) 9)) := ext_alloc (ext_alloc (ext_refl w) (.cells #[.slice pA n pc, .int .i64 a, .int .i64 1, .int .i64 r, .int .i64 o, .int .i64 k, v6, v7, v8] 28)) (.cells (#[.string ⟨#[105, 100, 108, 101]⟩, .string ⟨#[99, 111, 109, 109, 97, 110, 100]⟩, .string ⟨#[112, 114, 111, 98, 101]⟩, .string ⟨#[117, 110, 100, 111]⟩, .string ⟨#[99, 108, 101, 97, 114]⟩, .string ⟨#[102, 97, 105, 108, 101, 100]⟩, .string ⟨#[102, 105, 110, 105, 115, 104, 101, 100]⟩]) 9)
  have P0 : Blk ((w.alloc (.cells #[.slice pA n pc, .int .i64 a, .int .i64 1, .int .i64 r, .int .i64 o, .int .i64 k, v6, v7, v8] 28)).alloc (.cells (#[.string ⟨#[105, 100, 108, 101]⟩, .string ⟨#[99, 111, 109, 109, 97, 110, 100]⟩, .string ⟨#[112, 114, 111, 98, 101]⟩, .string ⟨#[117, 110, 100, 111]⟩, .string ⟨#[99, 108, 101, 97, 114]⟩, .string ⟨#[102, 97, 105, 108, 101, 100]⟩, .string ⟨#[102, 105, 110, 105, 115, 104, 101, 100]⟩]) 9)) w.heap.size 28 #[.slice pA n pc, .int .i64 a, .int .i64 1, .int .i64 r, .int .i64 o, .int .i64 k, v6, v7, v8] := by (repeat (first | assumption | (with_reducible refine Blk.new' ?_; simp; done) | with_reducible refine Blk.alloc ?_ _ | with_reducible refine Blk.drew ?_ | with_reducible refine Blk.ext ?_ (by assumption)))
  generalize ((w.alloc (.cells #[.slice pA n pc, .int .i64 a, .int .i64 1, .int .i64 r, .int .i64 o, .int .i64 k, v6, v7, v8] 28)).alloc (.cells (#[.string ⟨#[105, 100, 108, 101]⟩, .string ⟨#[99, 111, 109, 109, 97, 110, 100]⟩, .string ⟨#[112, 114, 111, 98, 101]⟩, .string ⟨#[117, 110, 100, 111]⟩, .string ⟨#[99, 108, 101, 97, 114]⟩, .string ⟨#[102, 97, 105, 108, 101, 100]⟩, .string ⟨#[102, 105, 110, 105, 115, 104, 101, 100]⟩]) 9)) = W0 at X0 P0 ⊢
  have T0 := TabIs_ext ht X0
  have X0 := hid X0
  have Fa : ∀ x : World, Below W0.heap.size W0 x → Calls Tryd.prog 11 #[.int .i64 a] x fun e w' => e = .returned (.string (txt a)) ∧ Below x.heap.size x w' := fun x hx => itoaC a ha x (TabIs_ext T0 hx)
  have Fn : ∀ x : World, Below W0.heap.size W0 x → Calls Tryd.prog 11 #[.int .i64 n] x fun e w' => e = .returned (.string (txt n)) ∧ Below x.heap.size x w' := fun x hx => itoaC n ⟨by omega, hn⟩ x (TabIs_ext T0 hx)
  have cP := gr_blk P0
  refine wp_region_gr (by kernel_rfl) (by kernel_rfl) ?_
  repeat (go_big_quiet_step (first | (go_at_call 11; with_reducible exact gr_of (Fa _ (Gr.ok _))) | (go_at_call 11; with_reducible exact gr_of (Fn _ (Gr.ok _)))))
  refine wpQuiet_nil ?_
  intro w1 hw'
  have hb1 := gr_out hw'
  clear hw'
  clear cP Fa Fn
  have T1 := TabIs_ext T0 hb1
  have P1 := P0.ext hb1
  have X1 := hid (ext_step X0.out hb1)
  clear hb1 T0 P0 X0
  have Fr : ∀ x : World, Below w1.heap.size w1 x → Calls Tryd.prog 11 #[.int .i64 r] x fun e w' => e = .returned (.string (txt r)) ∧ Below x.heap.size x w' := fun x hx => itoaC r hr x (TabIs_ext T1 hx)
  have Fo : ∀ x : World, Below w1.heap.size w1 x → Calls Tryd.prog 11 #[.int .i64 o] x fun e w' => e = .returned (.string (txt o)) ∧ Below x.heap.size x w' := fun x hx => itoaC o ho x (TabIs_ext T1 hx)
  have Fk : ∀ x : World, Below w1.heap.size w1 x → Calls Tryd.prog 12 #[.int .i64 k, .int .i64 10] x fun e w' => e = .returned (.string (txt k)) ∧ Below x.heap.size x w' := fun x hx => fmtC k hk x (TabIs_ext T1 hx)
  have cP := gr_blk P1
  try go_wp2_with fail
  refine wp_region_gr (by kernel_rfl) (by kernel_rfl) ?_
  repeat (go_big_quiet_step (first | (go_at_call 12; with_reducible exact gr_of (Fk _ (Gr.ok _))) | (go_at_call 11; with_reducible exact gr_of (Fr _ (Gr.ok _))) | (go_at_call 11; with_reducible exact gr_of (Fo _ (Gr.ok _)))))
  refine wpQuiet_nil ?_
  intro w2 hw'
  have hb2 := gr_out hw'
  clear hw'
  have X2 := ext_step X1.out hb2
  go_wp2_with fail
  go_ret
  exact ⟨rfl, X2⟩
theorem stP2 (pA : Option Addr) (n pc : Nat) (a r o k : Int) (v6 v7 v8 : Value) (w : World) (ht : TabW w) (hn : (n : Int) ≤ 9223372036854775807) (ha : -9223372036854775808 ≤ a ∧ a ≤ 9223372036854775807) (hr : -9223372036854775808 ≤ r ∧ r ≤ 9223372036854775807) (ho : -9223372036854775808 ≤ o ∧ o ≤ 9223372036854775807) (hk : -9223372036854775808 ≤ k ∧ k ≤ 9223372036854775807) :
    Calls Tryd.prog 5 #[.agg #[.slice pA n pc, .int .i64 a, .int .i64 2, .int .i64 r, .int .i64 o, .int .i64 k, v6, v7, v8]] w fun e w' => e = .returned (.string (statOf ⟨#[112, 114, 111, 98, 101]⟩ a n r o k)) ∧ Below w.heap.size w w' := by
  have sa := txt_size ha
  have sr := txt_size hr
  have so := txt_size ho
  have sk := txt_size hk
  have sn := txt_size (n := (n : Int)) ⟨by omega, hn⟩
  go_enter Tryd.func5, Tryd.ntmps5
  go_wp2_with fail
  have X0 : Below w.heap.size w ((w.alloc (.cells #[.slice pA n pc, .int .i64 a, .int .i64 2, .int .i64 r, .int .i64 o, .int .i64 k, v6, v7, v8] 28)).alloc (.cells (#[.string ⟨#[105, 100, 108, 101]⟩, .string ⟨#[99, 111, 109, 109, 97, 110, 100]⟩, .string ⟨#[112, 114, 111, 98, 101]⟩, .string ⟨#[117, 110, 100, 111]⟩, .string ⟨#[99, 108, 101, 97, 114]⟩, .string ⟨#[102, 97, 105, 108, 101, 100]⟩, .string ⟨#[102, 105, 110, 105, 115, 104, 101, 100]⟩]) 9)) := ext_alloc (ext_alloc (ext_refl w) (.cells #[.slice pA n pc, .int .i64 a, .int .i64 2, .int .i64 r, .int .i64 o, .int .i64 k, v6, v7, v8] 28)) (.cells (#[.string ⟨#[105, 100, 108, 101]⟩, .string ⟨#[99, 111, 109, 109, 97, 110, 100]⟩, .string ⟨#[112, 114, 111, 98, 101]⟩, .string ⟨#[117, 110, 100, 111]⟩, .string ⟨#[99, 108, 101, 97, 114]⟩, .string ⟨#[102, 97, 105, 108, 101, 100]⟩, .string ⟨#[102, 105, 110, 105, 115, 104, 101, 100]⟩]) 9)
  have P0 : Blk ((w.alloc (.cells #[.slice pA n pc, .int .i64 a, .int .i64 2, .int .i64 r, .int .i64 o, .int .i64 k, v6, v7, v8] 28)).alloc (.cells (#[.string ⟨#[105, 100, 108, 101]⟩, .string ⟨#[99, 111, 109, 109, 97, 110, 100]⟩, .string ⟨#[112, 114, 111, 98, 101]⟩, .string ⟨#[117, 110, 100, 111]⟩, .string ⟨#[99, 108, 101, 97, 114]⟩, .string ⟨#[102, 97, 105, 108, 101, 100]⟩, .string ⟨#[102, 105, 110, 105, 115, 104, 101, 100]⟩]) 9)) w.heap.size 28 #[.slice pA n pc, .int .i64 a, .int .i64 2, .int .i64 r, .int .i64 o, .int .i64 k, v6, v7, v8] := by (repeat (first | assumption | (with_reducible refine Blk.new' ?_; simp; done) | with_reducible refine Blk.alloc ?_ _ | with_reducible refine Blk.drew ?_ | with_reducible refine Blk.ext ?_ (by assumption)))
  generalize ((w.alloc (.cells #[.slice pA n pc, .int .i64 a, .int .i64 2, .int .i64 r, .int .i64 o, .int .i64 k, v6, v7, v8] 28)).alloc (.cells (#[.string ⟨#[105, 100, 108, 101]⟩, .string ⟨#[99, 111, 109, 109, 97, 110, 100]⟩, .string ⟨#[112, 114, 111, 98, 101]⟩, .string ⟨#[117, 110, 100, 111]⟩, .string ⟨#[99, 108, 101, 97, 114]⟩, .string ⟨#[102, 97, 105, 108, 101, 100]⟩, .string ⟨#[102, 105, 110, 105, 115, 104, 101, 100]⟩]) 9)) = W0 at X0 P0 ⊢
  have T0 := TabIs_ext ht X0
  have X0 := hid X0
  have Fa : ∀ x : World, Below W0.heap.size W0 x → Calls Tryd.prog 11 #[.int .i64 a] x fun e w' => e = .returned (.string (txt a)) ∧ Below x.heap.size x w' := fun x hx => itoaC a ha x (TabIs_ext T0 hx)
  have Fn : ∀ x : World, Below W0.heap.size W0 x → Calls Tryd.prog 11 #[.int .i64 n] x fun e w' => e = .returned (.string (txt n)) ∧ Below x.heap.size x w' := fun x hx => itoaC n ⟨by omega, hn⟩ x (TabIs_ext T0 hx)
  have cP := gr_blk P0
  refine wp_region_gr (by kernel_rfl) (by kernel_rfl) ?_
  repeat (go_big_quiet_step (first | (go_at_call 11; with_reducible exact gr_of (Fa _ (Gr.ok _))) | (go_at_call 11; with_reducible exact gr_of (Fn _ (Gr.ok _)))))
  refine wpQuiet_nil ?_
  intro w1 hw'
  have hb1 := gr_out hw'
  clear hw'
  clear cP Fa Fn
  have T1 := TabIs_ext T0 hb1
  have P1 := P0.ext hb1
  have X1 := hid (ext_step X0.out hb1)
  clear hb1 T0 P0 X0
  have Fr : ∀ x : World, Below w1.heap.size w1 x → Calls Tryd.prog 11 #[.int .i64 r] x fun e w' => e = .returned (.string (txt r)) ∧ Below x.heap.size x w' := fun x hx => itoaC r hr x (TabIs_ext T1 hx)
  have Fo : ∀ x : World, Below w1.heap.size w1 x → Calls Tryd.prog 11 #[.int .i64 o] x fun e w' => e = .returned (.string (txt o)) ∧ Below x.heap.size x w' := fun x hx => itoaC o ho x (TabIs_ext T1 hx)
  have Fk : ∀ x : World, Below w1.heap.size w1 x → Calls Tryd.prog 12 #[.int .i64 k, .int .i64 10] x fun e w' => e = .returned (.string (txt k)) ∧ Below x.heap.size x w' := fun x hx => fmtC k hk x (TabIs_ext T1 hx)
  have cP := gr_blk P1
  try go_wp2_with fail
  refine wp_region_gr (by kernel_rfl) (by kernel_rfl) ?_
  repeat (go_big_quiet_step (first | (go_at_call 12; with_reducible exact gr_of (Fk _ (Gr.ok _))) | (go_at_call 11; with_reducible exact gr_of (Fr _ (Gr.ok _))) | (go_at_call 11; with_reducible exact gr_of (Fo _ (Gr.ok _)))))
  refine wpQuiet_nil ?_
  intro w2 hw'
  have hb2 := gr_out hw'
  clear hw'
  have X2 := ext_step X1.out hb2
  go_wp2_with fail
  go_ret
  exact ⟨rfl, X2⟩
theorem stP3 (pA : Option Addr) (n pc : Nat) (a r o k : Int) (v6 v7 v8 : Value) (w : World) (ht : TabW w) (hn : (n : Int) ≤ 9223372036854775807) (ha : -9223372036854775808 ≤ a ∧ a ≤ 9223372036854775807) (hr : -9223372036854775808 ≤ r ∧ r ≤ 9223372036854775807) (ho : -9223372036854775808 ≤ o ∧ o ≤ 9223372036854775807) (hk : -9223372036854775808 ≤ k ∧ k ≤ 9223372036854775807) :
    Calls Tryd.prog 5 #[.agg #[.slice pA n pc, .int .i64 a, .int .i64 3, .int .i64 r, .int .i64 o, .int .i64 k, v6, v7, v8]] w fun e w' => e = .returned (.string (statOf ⟨#[117, 110, 100, 111]⟩ a n r o k)) ∧ Below w.heap.size w w' := by
  have sa := txt_size ha
  have sr := txt_size hr
  have so := txt_size ho
  have sk := txt_size hk
  have sn := txt_size (n := (n : Int)) ⟨by omega, hn⟩
  go_enter Tryd.func5, Tryd.ntmps5
  go_wp2_with fail
  have X0 : Below w.heap.size w ((w.alloc (.cells #[.slice pA n pc, .int .i64 a, .int .i64 3, .int .i64 r, .int .i64 o, .int .i64 k, v6, v7, v8] 28)).alloc (.cells (#[.string ⟨#[105, 100, 108, 101]⟩, .string ⟨#[99, 111, 109, 109, 97, 110, 100]⟩, .string ⟨#[112, 114, 111, 98, 101]⟩, .string ⟨#[117, 110, 100, 111]⟩, .string ⟨#[99, 108, 101, 97, 114]⟩, .string ⟨#[102, 97, 105, 108, 101, 100]⟩, .string ⟨#[102, 105, 110, 105, 115, 104, 101, 100]⟩]) 9)) := ext_alloc (ext_alloc (ext_refl w) (.cells #[.slice pA n pc, .int .i64 a, .int .i64 3, .int .i64 r, .int .i64 o, .int .i64 k, v6, v7, v8] 28)) (.cells (#[.string ⟨#[105, 100, 108, 101]⟩, .string ⟨#[99, 111, 109, 109, 97, 110, 100]⟩, .string ⟨#[112, 114, 111, 98, 101]⟩, .string ⟨#[117, 110, 100, 111]⟩, .string ⟨#[99, 108, 101, 97, 114]⟩, .string ⟨#[102, 97, 105, 108, 101, 100]⟩, .string ⟨#[102, 105, 110, 105, 115, 104, 101, 100]⟩]) 9)
  have P0 : Blk ((w.alloc (.cells #[.slice pA n pc, .int .i64 a, .int .i64 3, .int .i64 r, .int .i64 o, .int .i64 k, v6, v7, v8] 28)).alloc (.cells (#[.string ⟨#[105, 100, 108, 101]⟩, .string ⟨#[99, 111, 109, 109, 97, 110, 100]⟩, .string ⟨#[112, 114, 111, 98, 101]⟩, .string ⟨#[117, 110, 100, 111]⟩, .string ⟨#[99, 108, 101, 97, 114]⟩, .string ⟨#[102, 97, 105, 108, 101, 100]⟩, .string ⟨#[102, 105, 110, 105, 115, 104, 101, 100]⟩]) 9)) w.heap.size 28 #[.slice pA n pc, .int .i64 a, .int .i64 3, .int .i64 r, .int .i64 o, .int .i64 k, v6, v7, v8] := by (repeat (first | assumption | (with_reducible refine Blk.new' ?_; simp; done) | with_reducible refine Blk.alloc ?_ _ | with_reducible refine Blk.drew ?_ | with_reducible refine Blk.ext ?_ (by assumption)))
  generalize ((w.alloc (.cells #[.slice pA n pc, .int .i64 a, .int .i64 3, .int .i64 r, .int .i64 o, .int .i64 k, v6, v7, v8] 28)).alloc (.cells (#[.string ⟨#[105, 100, 108, 101]⟩, .string ⟨#[99, 111, 109, 109, 97, 110, 100]⟩, .string ⟨#[112, 114, 111, 98, 101]⟩, .string ⟨#[117, 110, 100, 111]⟩, .string ⟨#[99, 108, 101, 97, 114]⟩, .string ⟨#[102, 97, 105, 108, 101, 100]⟩, .string ⟨#[102, 105, 110, 105, 115, 104, 101, 100]⟩]) 9)) = W0 at X0 P0 ⊢
  have T0 := TabIs_ext ht X0
  have X0 := hid X0
  have Fa : ∀ x : World, Below W0.heap.size W0 x → Calls Tryd.prog 11 #[.int .i64 a] x fun e w' => e = .returned (.string (txt a)) ∧ Below x.heap.size x w' := fun x hx => itoaC a ha x (TabIs_ext T0 hx)
  have Fn : ∀ x : World, Below W0.heap.size W0 x → Calls Tryd.prog 11 #[.int .i64 n] x fun e w' => e = .returned (.string (txt n)) ∧ Below x.heap.size x w' := fun x hx => itoaC n ⟨by omega, hn⟩ x (TabIs_ext T0 hx)
  have cP := gr_blk P0
  refine wp_region_gr (by kernel_rfl) (by kernel_rfl) ?_
  repeat (go_big_quiet_step (first | (go_at_call 11; with_reducible exact gr_of (Fa _ (Gr.ok _))) | (go_at_call 11; with_reducible exact gr_of (Fn _ (Gr.ok _)))))
  refine wpQuiet_nil ?_
  intro w1 hw'
  have hb1 := gr_out hw'
  clear hw'
  clear cP Fa Fn
  have T1 := TabIs_ext T0 hb1
  have P1 := P0.ext hb1
  have X1 := hid (ext_step X0.out hb1)
  clear hb1 T0 P0 X0
  have Fr : ∀ x : World, Below w1.heap.size w1 x → Calls Tryd.prog 11 #[.int .i64 r] x fun e w' => e = .returned (.string (txt r)) ∧ Below x.heap.size x w' := fun x hx => itoaC r hr x (TabIs_ext T1 hx)
  have Fo : ∀ x : World, Below w1.heap.size w1 x → Calls Tryd.prog 11 #[.int .i64 o] x fun e w' => e = .returned (.string (txt o)) ∧ Below x.heap.size x w' := fun x hx => itoaC o ho x (TabIs_ext T1 hx)
  have Fk : ∀ x : World, Below w1.heap.size w1 x → Calls Tryd.prog 12 #[.int .i64 k, .int .i64 10] x fun e w' => e = .returned (.string (txt k)) ∧ Below x.heap.size x w' := fun x hx => fmtC k hk x (TabIs_ext T1 hx)
  have cP := gr_blk P1
  try go_wp2_with fail
  refine wp_region_gr (by kernel_rfl) (by kernel_rfl) ?_
  repeat (go_big_quiet_step (first | (go_at_call 12; with_reducible exact gr_of (Fk _ (Gr.ok _))) | (go_at_call 11; with_reducible exact gr_of (Fr _ (Gr.ok _))) | (go_at_call 11; with_reducible exact gr_of (Fo _ (Gr.ok _)))))
  refine wpQuiet_nil ?_
  intro w2 hw'
  have hb2 := gr_out hw'
  clear hw'
  have X2 := ext_step X1.out hb2
  go_wp2_with fail
  go_ret
  exact ⟨rfl, X2⟩
theorem stP4 (pA : Option Addr) (n pc : Nat) (a r o k : Int) (v6 v7 v8 : Value) (w : World) (ht : TabW w) (hn : (n : Int) ≤ 9223372036854775807) (ha : -9223372036854775808 ≤ a ∧ a ≤ 9223372036854775807) (hr : -9223372036854775808 ≤ r ∧ r ≤ 9223372036854775807) (ho : -9223372036854775808 ≤ o ∧ o ≤ 9223372036854775807) (hk : -9223372036854775808 ≤ k ∧ k ≤ 9223372036854775807) :
    Calls Tryd.prog 5 #[.agg #[.slice pA n pc, .int .i64 a, .int .i64 4, .int .i64 r, .int .i64 o, .int .i64 k, v6, v7, v8]] w fun e w' => e = .returned (.string (statOf ⟨#[99, 108, 101, 97, 114]⟩ a n r o k)) ∧ Below w.heap.size w w' := by
  have sa := txt_size ha
  have sr := txt_size hr
  have so := txt_size ho
  have sk := txt_size hk
  have sn := txt_size (n := (n : Int)) ⟨by omega, hn⟩
  go_enter Tryd.func5, Tryd.ntmps5
  go_wp2_with fail
  have X0 : Below w.heap.size w ((w.alloc (.cells #[.slice pA n pc, .int .i64 a, .int .i64 4, .int .i64 r, .int .i64 o, .int .i64 k, v6, v7, v8] 28)).alloc (.cells (#[.string ⟨#[105, 100, 108, 101]⟩, .string ⟨#[99, 111, 109, 109, 97, 110, 100]⟩, .string ⟨#[112, 114, 111, 98, 101]⟩, .string ⟨#[117, 110, 100, 111]⟩, .string ⟨#[99, 108, 101, 97, 114]⟩, .string ⟨#[102, 97, 105, 108, 101, 100]⟩, .string ⟨#[102, 105, 110, 105, 115, 104, 101, 100]⟩]) 9)) := ext_alloc (ext_alloc (ext_refl w) (.cells #[.slice pA n pc, .int .i64 a, .int .i64 4, .int .i64 r, .int .i64 o, .int .i64 k, v6, v7, v8] 28)) (.cells (#[.string ⟨#[105, 100, 108, 101]⟩, .string ⟨#[99, 111, 109, 109, 97, 110, 100]⟩, .string ⟨#[112, 114, 111, 98, 101]⟩, .string ⟨#[117, 110, 100, 111]⟩, .string ⟨#[99, 108, 101, 97, 114]⟩, .string ⟨#[102, 97, 105, 108, 101, 100]⟩, .string ⟨#[102, 105, 110, 105, 115, 104, 101, 100]⟩]) 9)
  have P0 : Blk ((w.alloc (.cells #[.slice pA n pc, .int .i64 a, .int .i64 4, .int .i64 r, .int .i64 o, .int .i64 k, v6, v7, v8] 28)).alloc (.cells (#[.string ⟨#[105, 100, 108, 101]⟩, .string ⟨#[99, 111, 109, 109, 97, 110, 100]⟩, .string ⟨#[112, 114, 111, 98, 101]⟩, .string ⟨#[117, 110, 100, 111]⟩, .string ⟨#[99, 108, 101, 97, 114]⟩, .string ⟨#[102, 97, 105, 108, 101, 100]⟩, .string ⟨#[102, 105, 110, 105, 115, 104, 101, 100]⟩]) 9)) w.heap.size 28 #[.slice pA n pc, .int .i64 a, .int .i64 4, .int .i64 r, .int .i64 o, .int .i64 k, v6, v7, v8] := by (repeat (first | assumption | (with_reducible refine Blk.new' ?_; simp; done) | with_reducible refine Blk.alloc ?_ _ | with_reducible refine Blk.drew ?_ | with_reducible refine Blk.ext ?_ (by assumption)))
  generalize ((w.alloc (.cells #[.slice pA n pc, .int .i64 a, .int .i64 4, .int .i64 r, .int .i64 o, .int .i64 k, v6, v7, v8] 28)).alloc (.cells (#[.string ⟨#[105, 100, 108, 101]⟩, .string ⟨#[99, 111, 109, 109, 97, 110, 100]⟩, .string ⟨#[112, 114, 111, 98, 101]⟩, .string ⟨#[117, 110, 100, 111]⟩, .string ⟨#[99, 108, 101, 97, 114]⟩, .string ⟨#[102, 97, 105, 108, 101, 100]⟩, .string ⟨#[102, 105, 110, 105, 115, 104, 101, 100]⟩]) 9)) = W0 at X0 P0 ⊢
  have T0 := TabIs_ext ht X0
  have X0 := hid X0
  have Fa : ∀ x : World, Below W0.heap.size W0 x → Calls Tryd.prog 11 #[.int .i64 a] x fun e w' => e = .returned (.string (txt a)) ∧ Below x.heap.size x w' := fun x hx => itoaC a ha x (TabIs_ext T0 hx)
  have Fn : ∀ x : World, Below W0.heap.size W0 x → Calls Tryd.prog 11 #[.int .i64 n] x fun e w' => e = .returned (.string (txt n)) ∧ Below x.heap.size x w' := fun x hx => itoaC n ⟨by omega, hn⟩ x (TabIs_ext T0 hx)
  have cP := gr_blk P0
  refine wp_region_gr (by kernel_rfl) (by kernel_rfl) ?_
  repeat (go_big_quiet_step (first | (go_at_call 11; with_reducible exact gr_of (Fa _ (Gr.ok _))) | (go_at_call 11; with_reducible exact gr_of (Fn _ (Gr.ok _)))))
  refine wpQuiet_nil ?_
  intro w1 hw'
  have hb1 := gr_out hw'
  clear hw'
  clear cP Fa Fn
  have T1 := TabIs_ext T0 hb1
  have P1 := P0.ext hb1
  have X1 := hid (ext_step X0.out hb1)
  clear hb1 T0 P0 X0
  have Fr : ∀ x : World, Below w1.heap.size w1 x → Calls Tryd.prog 11 #[.int .i64 r] x fun e w' => e = .returned (.string (txt r)) ∧ Below x.heap.size x w' := fun x hx => itoaC r hr x (TabIs_ext T1 hx)
  have Fo : ∀ x : World, Below w1.heap.size w1 x → Calls Tryd.prog 11 #[.int .i64 o] x fun e w' => e = .returned (.string (txt o)) ∧ Below x.heap.size x w' := fun x hx => itoaC o ho x (TabIs_ext T1 hx)
  have Fk : ∀ x : World, Below w1.heap.size w1 x → Calls Tryd.prog 12 #[.int .i64 k, .int .i64 10] x fun e w' => e = .returned (.string (txt k)) ∧ Below x.heap.size x w' := fun x hx => fmtC k hk x (TabIs_ext T1 hx)
  have cP := gr_blk P1
  try go_wp2_with fail
  refine wp_region_gr (by kernel_rfl) (by kernel_rfl) ?_
  repeat (go_big_quiet_step (first | (go_at_call 12; with_reducible exact gr_of (Fk _ (Gr.ok _))) | (go_at_call 11; with_reducible exact gr_of (Fr _ (Gr.ok _))) | (go_at_call 11; with_reducible exact gr_of (Fo _ (Gr.ok _)))))
  refine wpQuiet_nil ?_
  intro w2 hw'
  have hb2 := gr_out hw'
  clear hw'
  have X2 := ext_step X1.out hb2
  go_wp2_with fail
  go_ret
  exact ⟨rfl, X2⟩
theorem stP5 (pA : Option Addr) (n pc : Nat) (a r o k : Int) (v6 v7 v8 : Value) (w : World) (ht : TabW w) (hn : (n : Int) ≤ 9223372036854775807) (ha : -9223372036854775808 ≤ a ∧ a ≤ 9223372036854775807) (hr : -9223372036854775808 ≤ r ∧ r ≤ 9223372036854775807) (ho : -9223372036854775808 ≤ o ∧ o ≤ 9223372036854775807) (hk : -9223372036854775808 ≤ k ∧ k ≤ 9223372036854775807) :
    Calls Tryd.prog 5 #[.agg #[.slice pA n pc, .int .i64 a, .int .i64 5, .int .i64 r, .int .i64 o, .int .i64 k, v6, v7, v8]] w fun e w' => e = .returned (.string (statOf ⟨#[102, 97, 105, 108, 101, 100]⟩ a n r o k)) ∧ Below w.heap.size w w' := by
  have sa := txt_size ha
  have sr := txt_size hr
  have so := txt_size ho
  have sk := txt_size hk
  have sn := txt_size (n := (n : Int)) ⟨by omega, hn⟩
  go_enter Tryd.func5, Tryd.ntmps5
  go_wp2_with fail
  have X0 : Below w.heap.size w ((w.alloc (.cells #[.slice pA n pc, .int .i64 a, .int .i64 5, .int .i64 r, .int .i64 o, .int .i64 k, v6, v7, v8] 28)).alloc (.cells (#[.string ⟨#[105, 100, 108, 101]⟩, .string ⟨#[99, 111, 109, 109, 97, 110, 100]⟩, .string ⟨#[112, 114, 111, 98, 101]⟩, .string ⟨#[117, 110, 100, 111]⟩, .string ⟨#[99, 108, 101, 97, 114]⟩, .string ⟨#[102, 97, 105, 108, 101, 100]⟩, .string ⟨#[102, 105, 110, 105, 115, 104, 101, 100]⟩]) 9)) := ext_alloc (ext_alloc (ext_refl w) (.cells #[.slice pA n pc, .int .i64 a, .int .i64 5, .int .i64 r, .int .i64 o, .int .i64 k, v6, v7, v8] 28)) (.cells (#[.string ⟨#[105, 100, 108, 101]⟩, .string ⟨#[99, 111, 109, 109, 97, 110, 100]⟩, .string ⟨#[112, 114, 111, 98, 101]⟩, .string ⟨#[117, 110, 100, 111]⟩, .string ⟨#[99, 108, 101, 97, 114]⟩, .string ⟨#[102, 97, 105, 108, 101, 100]⟩, .string ⟨#[102, 105, 110, 105, 115, 104, 101, 100]⟩]) 9)
  have P0 : Blk ((w.alloc (.cells #[.slice pA n pc, .int .i64 a, .int .i64 5, .int .i64 r, .int .i64 o, .int .i64 k, v6, v7, v8] 28)).alloc (.cells (#[.string ⟨#[105, 100, 108, 101]⟩, .string ⟨#[99, 111, 109, 109, 97, 110, 100]⟩, .string ⟨#[112, 114, 111, 98, 101]⟩, .string ⟨#[117, 110, 100, 111]⟩, .string ⟨#[99, 108, 101, 97, 114]⟩, .string ⟨#[102, 97, 105, 108, 101, 100]⟩, .string ⟨#[102, 105, 110, 105, 115, 104, 101, 100]⟩]) 9)) w.heap.size 28 #[.slice pA n pc, .int .i64 a, .int .i64 5, .int .i64 r, .int .i64 o, .int .i64 k, v6, v7, v8] := by (repeat (first | assumption | (with_reducible refine Blk.new' ?_; simp; done) | with_reducible refine Blk.alloc ?_ _ | with_reducible refine Blk.drew ?_ | with_reducible refine Blk.ext ?_ (by assumption)))
  generalize ((w.alloc (.cells #[.slice pA n pc, .int .i64 a, .int .i64 5, .int .i64 r, .int .i64 o, .int .i64 k, v6, v7, v8] 28)).alloc (.cells (#[.string ⟨#[105, 100, 108, 101]⟩, .string ⟨#[99, 111, 109, 109, 97, 110, 100]⟩, .string ⟨#[112, 114, 111, 98, 101]⟩, .string ⟨#[117, 110, 100, 111]⟩, .string ⟨#[99, 108, 101, 97, 114]⟩, .string ⟨#[102, 97, 105, 108, 101, 100]⟩, .string ⟨#[102, 105, 110, 105, 115, 104, 101, 100]⟩]) 9)) = W0 at X0 P0 ⊢
  have T0 := TabIs_ext ht X0
  have X0 := hid X0
  have Fa : ∀ x : World, Below W0.heap.size W0 x → Calls Tryd.prog 11 #[.int .i64 a] x fun e w' => e = .returned (.string (txt a)) ∧ Below x.heap.size x w' := fun x hx => itoaC a ha x (TabIs_ext T0 hx)
  have Fn : ∀ x : World, Below W0.heap.size W0 x → Calls Tryd.prog 11 #[.int .i64 n] x fun e w' => e = .returned (.string (txt n)) ∧ Below x.heap.size x w' := fun x hx => itoaC n ⟨by omega, hn⟩ x (TabIs_ext T0 hx)
  have cP := gr_blk P0
  refine wp_region_gr (by kernel_rfl) (by kernel_rfl) ?_
  repeat (go_big_quiet_step (first | (go_at_call 11; with_reducible exact gr_of (Fa _ (Gr.ok _))) | (go_at_call 11; with_reducible exact gr_of (Fn _ (Gr.ok _)))))
  refine wpQuiet_nil ?_
  intro w1 hw'
  have hb1 := gr_out hw'
  clear hw'
  clear cP Fa Fn
  have T1 := TabIs_ext T0 hb1
  have P1 := P0.ext hb1
  have X1 := hid (ext_step X0.out hb1)
  clear hb1 T0 P0 X0
  have Fr : ∀ x : World, Below w1.heap.size w1 x → Calls Tryd.prog 11 #[.int .i64 r] x fun e w' => e = .returned (.string (txt r)) ∧ Below x.heap.size x w' := fun x hx => itoaC r hr x (TabIs_ext T1 hx)
  have Fo : ∀ x : World, Below w1.heap.size w1 x → Calls Tryd.prog 11 #[.int .i64 o] x fun e w' => e = .returned (.string (txt o)) ∧ Below x.heap.size x w' := fun x hx => itoaC o ho x (TabIs_ext T1 hx)
  have Fk : ∀ x : World, Below w1.heap.size w1 x → Calls Tryd.prog 12 #[.int .i64 k, .int .i64 10] x fun e w' => e = .returned (.string (txt k)) ∧ Below x.heap.size x w' := fun x hx => fmtC k hk x (TabIs_ext T1 hx)
  have cP := gr_blk P1
  try go_wp2_with fail
  refine wp_region_gr (by kernel_rfl) (by kernel_rfl) ?_
  repeat (go_big_quiet_step (first | (go_at_call 12; with_reducible exact gr_of (Fk _ (Gr.ok _))) | (go_at_call 11; with_reducible exact gr_of (Fr _ (Gr.ok _))) | (go_at_call 11; with_reducible exact gr_of (Fo _ (Gr.ok _)))))
  refine wpQuiet_nil ?_
  intro w2 hw'
  have hb2 := gr_out hw'
  clear hw'
  have X2 := ext_step X1.out hb2
  go_wp2_with fail
  go_ret
  exact ⟨rfl, X2⟩
theorem stP6 (pA : Option Addr) (n pc : Nat) (a r o k : Int) (v6 v7 v8 : Value) (w : World) (ht : TabW w) (hn : (n : Int) ≤ 9223372036854775807) (ha : -9223372036854775808 ≤ a ∧ a ≤ 9223372036854775807) (hr : -9223372036854775808 ≤ r ∧ r ≤ 9223372036854775807) (ho : -9223372036854775808 ≤ o ∧ o ≤ 9223372036854775807) (hk : -9223372036854775808 ≤ k ∧ k ≤ 9223372036854775807) :
    Calls Tryd.prog 5 #[.agg #[.slice pA n pc, .int .i64 a, .int .i64 6, .int .i64 r, .int .i64 o, .int .i64 k, v6, v7, v8]] w fun e w' => e = .returned (.string (statOf ⟨#[102, 105, 110, 105, 115, 104, 101, 100]⟩ a n r o k)) ∧ Below w.heap.size w w' := by
  have sa := txt_size ha
  have sr := txt_size hr
  have so := txt_size ho
  have sk := txt_size hk
  have sn := txt_size (n := (n : Int)) ⟨by omega, hn⟩
  go_enter Tryd.func5, Tryd.ntmps5
  go_wp2_with fail
  have X0 : Below w.heap.size w ((w.alloc (.cells #[.slice pA n pc, .int .i64 a, .int .i64 6, .int .i64 r, .int .i64 o, .int .i64 k, v6, v7, v8] 28)).alloc (.cells (#[.string ⟨#[105, 100, 108, 101]⟩, .string ⟨#[99, 111, 109, 109, 97, 110, 100]⟩, .string ⟨#[112, 114, 111, 98, 101]⟩, .string ⟨#[117, 110, 100, 111]⟩, .string ⟨#[99, 108, 101, 97, 114]⟩, .string ⟨#[102, 97, 105, 108, 101, 100]⟩, .string ⟨#[102, 105, 110, 105, 115, 104, 101, 100]⟩]) 9)) := ext_alloc (ext_alloc (ext_refl w) (.cells #[.slice pA n pc, .int .i64 a, .int .i64 6, .int .i64 r, .int .i64 o, .int .i64 k, v6, v7, v8] 28)) (.cells (#[.string ⟨#[105, 100, 108, 101]⟩, .string ⟨#[99, 111, 109, 109, 97, 110, 100]⟩, .string ⟨#[112, 114, 111, 98, 101]⟩, .string ⟨#[117, 110, 100, 111]⟩, .string ⟨#[99, 108, 101, 97, 114]⟩, .string ⟨#[102, 97, 105, 108, 101, 100]⟩, .string ⟨#[102, 105, 110, 105, 115, 104, 101, 100]⟩]) 9)
  have P0 : Blk ((w.alloc (.cells #[.slice pA n pc, .int .i64 a, .int .i64 6, .int .i64 r, .int .i64 o, .int .i64 k, v6, v7, v8] 28)).alloc (.cells (#[.string ⟨#[105, 100, 108, 101]⟩, .string ⟨#[99, 111, 109, 109, 97, 110, 100]⟩, .string ⟨#[112, 114, 111, 98, 101]⟩, .string ⟨#[117, 110, 100, 111]⟩, .string ⟨#[99, 108, 101, 97, 114]⟩, .string ⟨#[102, 97, 105, 108, 101, 100]⟩, .string ⟨#[102, 105, 110, 105, 115, 104, 101, 100]⟩]) 9)) w.heap.size 28 #[.slice pA n pc, .int .i64 a, .int .i64 6, .int .i64 r, .int .i64 o, .int .i64 k, v6, v7, v8] := by (repeat (first | assumption | (with_reducible refine Blk.new' ?_; simp; done) | with_reducible refine Blk.alloc ?_ _ | with_reducible refine Blk.drew ?_ | with_reducible refine Blk.ext ?_ (by assumption)))
  generalize ((w.alloc (.cells #[.slice pA n pc, .int .i64 a, .int .i64 6, .int .i64 r, .int .i64 o, .int .i64 k, v6, v7, v8] 28)).alloc (.cells (#[.string ⟨#[105, 100, 108, 101]⟩, .string ⟨#[99, 111, 109, 109, 97, 110, 100]⟩, .string ⟨#[112, 114, 111, 98, 101]⟩, .string ⟨#[117, 110, 100, 111]⟩, .string ⟨#[99, 108, 101, 97, 114]⟩, .string ⟨#[102, 97, 105, 108, 101, 100]⟩, .string ⟨#[102, 105, 110, 105, 115, 104, 101, 100]⟩]) 9)) = W0 at X0 P0 ⊢
  have T0 := TabIs_ext ht X0
  have X0 := hid X0
  have Fa : ∀ x : World, Below W0.heap.size W0 x → Calls Tryd.prog 11 #[.int .i64 a] x fun e w' => e = .returned (.string (txt a)) ∧ Below x.heap.size x w' := fun x hx => itoaC a ha x (TabIs_ext T0 hx)
  have Fn : ∀ x : World, Below W0.heap.size W0 x → Calls Tryd.prog 11 #[.int .i64 n] x fun e w' => e = .returned (.string (txt n)) ∧ Below x.heap.size x w' := fun x hx => itoaC n ⟨by omega, hn⟩ x (TabIs_ext T0 hx)
  have cP := gr_blk P0
  refine wp_region_gr (by kernel_rfl) (by kernel_rfl) ?_
  repeat (go_big_quiet_step (first | (go_at_call 11; with_reducible exact gr_of (Fa _ (Gr.ok _))) | (go_at_call 11; with_reducible exact gr_of (Fn _ (Gr.ok _)))))
  refine wpQuiet_nil ?_
  intro w1 hw'
  have hb1 := gr_out hw'
  clear hw'
  clear cP Fa Fn
  have T1 := TabIs_ext T0 hb1
  have P1 := P0.ext hb1
  have X1 := hid (ext_step X0.out hb1)
  clear hb1 T0 P0 X0
  have Fr : ∀ x : World, Below w1.heap.size w1 x → Calls Tryd.prog 11 #[.int .i64 r] x fun e w' => e = .returned (.string (txt r)) ∧ Below x.heap.size x w' := fun x hx => itoaC r hr x (TabIs_ext T1 hx)
  have Fo : ∀ x : World, Below w1.heap.size w1 x → Calls Tryd.prog 11 #[.int .i64 o] x fun e w' => e = .returned (.string (txt o)) ∧ Below x.heap.size x w' := fun x hx => itoaC o ho x (TabIs_ext T1 hx)
  have Fk : ∀ x : World, Below w1.heap.size w1 x → Calls Tryd.prog 12 #[.int .i64 k, .int .i64 10] x fun e w' => e = .returned (.string (txt k)) ∧ Below x.heap.size x w' := fun x hx => fmtC k hk x (TabIs_ext T1 hx)
  have cP := gr_blk P1
  try go_wp2_with fail
  refine wp_region_gr (by kernel_rfl) (by kernel_rfl) ?_
  repeat (go_big_quiet_step (first | (go_at_call 12; with_reducible exact gr_of (Fk _ (Gr.ok _))) | (go_at_call 11; with_reducible exact gr_of (Fr _ (Gr.ok _))) | (go_at_call 11; with_reducible exact gr_of (Fo _ (Gr.ok _)))))
  refine wpQuiet_nil ?_
  intro w2 hw'
  have hb2 := gr_out hw'
  clear hw'
  have X2 := ext_step X1.out hb2
  go_wp2_with fail
  go_ret
  exact ⟨rfl, X2⟩
theorem stPneg (pA : Option Addr) (n pc : Nat) (a r o k : Int) (v6 v7 v8 : Value) (p : Int) (hp : p < 0) (w : World) (ht : TabW w) (hn : (n : Int) ≤ 9223372036854775807) (ha : -9223372036854775808 ≤ a ∧ a ≤ 9223372036854775807) (hr : -9223372036854775808 ≤ r ∧ r ≤ 9223372036854775807) (ho : -9223372036854775808 ≤ o ∧ o ≤ 9223372036854775807) (hk : -9223372036854775808 ≤ k ∧ k ≤ 9223372036854775807) :
    Calls Tryd.prog 5 #[.agg #[.slice pA n pc, .int .i64 a, .int .i64 p, .int .i64 r, .int .i64 o, .int .i64 k, v6, v7, v8]] w fun e w' => e = .returned (.string (statOf ⟨#[117, 110, 107, 110, 111, 119, 110]⟩ a n r o k)) ∧ Below w.heap.size w w' := by
  have sa := txt_size ha
  have sr := txt_size hr
  have so := txt_size ho
  have sk := txt_size hk
  have sn := txt_size (n := (n : Int)) ⟨by omega, hn⟩
  go_enter Tryd.func5, Tryd.ntmps5
  have hp1 : Hid True := trivial
  go_wp2_with fail
  have X0 : Below w.heap.size w ((w.alloc (.cells #[.slice pA n pc, .int .i64 a, .int .i64 p, .int .i64 r, .int .i64 o, .int .i64 k, v6, v7, v8] 28)).alloc (.cells (#[.string ⟨#[105, 100, 108, 101]⟩, .string ⟨#[99, 111, 109, 109, 97, 110, 100]⟩, .string ⟨#[112, 114, 111, 98, 101]⟩, .string ⟨#[117, 110, 100, 111]⟩, .string ⟨#[99, 108, 101, 97, 114]⟩, .string ⟨#[102, 97, 105, 108, 101, 100]⟩, .string ⟨#[102, 105, 110, 105, 115, 104, 101, 100]⟩]) 9)) := ext_alloc (ext_alloc (ext_refl w) (.cells #[.slice pA n pc, .int .i64 a, .int .i64 p, .int .i64 r, .int .i64 o, .int .i64 k, v6, v7, v8] 28)) (.cells (#[.string ⟨#[105, 100, 108, 101]⟩, .string ⟨#[99, 111, 109, 109, 97, 110, 100]⟩, .string ⟨#[112, 114, 111, 98, 101]⟩, .string ⟨#[117, 110, 100, 111]⟩, .string ⟨#[99, 108, 101, 97, 114]⟩, .string ⟨#[102, 97, 105, 108, 101, 100]⟩, .string ⟨#[102, 105, 110, 105, 115, 104, 101, 100]⟩]) 9)
  have P0 : Blk ((w.alloc (.cells #[.slice pA n pc, .int .i64 a, .int .i64 p, .int .i64 r, .int .i64 o, .int .i64 k, v6, v7, v8] 28)).alloc (.cells (#[.string ⟨#[105, 100, 108, 101]⟩, .string ⟨#[99, 111, 109, 109, 97, 110, 100]⟩, .string ⟨#[112, 114, 111, 98, 101]⟩, .string ⟨#[117, 110, 100, 111]⟩, .string ⟨#[99, 108, 101, 97, 114]⟩, .string ⟨#[102, 97, 105, 108, 101, 100]⟩, .string ⟨#[102, 105, 110, 105, 115, 104, 101, 100]⟩]) 9)) w.heap.size 28 #[.slice pA n pc, .int .i64 a, .int .i64 p, .int .i64 r, .int .i64 o, .int .i64 k, v6, v7, v8] := by (repeat (first | assumption | (with_reducible refine Blk.new' ?_; simp; done) | with_reducible refine Blk.alloc ?_ _ | with_reducible refine Blk.drew ?_ | with_reducible refine Blk.ext ?_ (by assumption)))
  generalize ((w.alloc (.cells #[.slice pA n pc, .int .i64 a, .int .i64 p, .int .i64 r, .int .i64 o, .int .i64 k, v6, v7, v8] 28)).alloc (.cells (#[.string ⟨#[105, 100, 108, 101]⟩, .string ⟨#[99, 111, 109, 109, 97, 110, 100]⟩, .string ⟨#[112, 114, 111, 98, 101]⟩, .string ⟨#[117, 110, 100, 111]⟩, .string ⟨#[99, 108, 101, 97, 114]⟩, .string ⟨#[102, 97, 105, 108, 101, 100]⟩, .string ⟨#[102, 105, 110, 105, 115, 104, 101, 100]⟩]) 9)) = W0 at X0 P0 ⊢
  have T0 := TabIs_ext ht X0
  have X0 := hid X0
  have Fa : ∀ x : World, Below W0.heap.size W0 x → Calls Tryd.prog 11 #[.int .i64 a] x fun e w' => e = .returned (.string (txt a)) ∧ Below x.heap.size x w' := fun x hx => itoaC a ha x (TabIs_ext T0 hx)
  have Fn : ∀ x : World, Below W0.heap.size W0 x → Calls Tryd.prog 11 #[.int .i64 n] x fun e w' => e = .returned (.string (txt n)) ∧ Below x.heap.size x w' := fun x hx => itoaC n ⟨by omega, hn⟩ x (TabIs_ext T0 hx)
  have cP := gr_blk P0
  refine wp_region_gr (by kernel_rfl) (by kernel_rfl) ?_
  repeat (go_big_quiet_step (first | (go_at_call 11; with_reducible exact gr_of (Fa _ (Gr.ok _))) | (go_at_call 11; with_reducible exact gr_of (Fn _ (Gr.ok _)))))
  refine wpQuiet_nil ?_
  intro w1 hw'
  have hb1 := gr_out hw'
  clear hw'
  clear cP Fa Fn
  have T1 := TabIs_ext T0 hb1
  have P1 := P0.ext hb1
  have X1 := hid (ext_step X0.out hb1)
  clear hb1 T0 P0 X0
  have Fr : ∀ x : World, Below w1.heap.size w1 x → Calls Tryd.prog 11 #[.int .i64 r] x fun e w' => e = .returned (.string (txt r)) ∧ Below x.heap.size x w' := fun x hx => itoaC r hr x (TabIs_ext T1 hx)
  have Fo : ∀ x : World, Below w1.heap.size w1 x → Calls Tryd.prog 11 #[.int .i64 o] x fun e w' => e = .returned (.string (txt o)) ∧ Below x.heap.size x w' := fun x hx => itoaC o ho x (TabIs_ext T1 hx)
  have Fk : ∀ x : World, Below w1.heap.size w1 x → Calls Tryd.prog 12 #[.int .i64 k, .int .i64 10] x fun e w' => e = .returned (.string (txt k)) ∧ Below x.heap.size x w' := fun x hx => fmtC k hk x (TabIs_ext T1 hx)
  have cP := gr_blk P1
  try go_wp2_with fail
  refine wp_region_gr (by kernel_rfl) (by kernel_rfl) ?_
  repeat (go_big_quiet_step (first | (go_at_call 12; with_reducible exact gr_of (Fk _ (Gr.ok _))) | (go_at_call 11; with_reducible exact gr_of (Fr _ (Gr.ok _))) | (go_at_call 11; with_reducible exact gr_of (Fo _ (Gr.ok _)))))
  refine wpQuiet_nil ?_
  intro w2 hw'
  have hb2 := gr_out hw'
  clear hw'
  have X2 := ext_step X1.out hb2
  go_wp2_with fail
  go_ret
  exact ⟨rfl, X2⟩
theorem stPbig (pA : Option Addr) (n pc : Nat) (a r o k : Int) (v6 v7 v8 : Value) (p : Int) (hp : 7 ≤ p) (w : World) (ht : TabW w) (hn : (n : Int) ≤ 9223372036854775807) (ha : -9223372036854775808 ≤ a ∧ a ≤ 9223372036854775807) (hr : -9223372036854775808 ≤ r ∧ r ≤ 9223372036854775807) (ho : -9223372036854775808 ≤ o ∧ o ≤ 9223372036854775807) (hk : -9223372036854775808 ≤ k ∧ k ≤ 9223372036854775807) :
    Calls Tryd.prog 5 #[.agg #[.slice pA n pc, .int .i64 a, .int .i64 p, .int .i64 r, .int .i64 o, .int .i64 k, v6, v7, v8]] w fun e w' => e = .returned (.string (statOf ⟨#[117, 110, 107, 110, 111, 119, 110]⟩ a n r o k)) ∧ Below w.heap.size w w' := by
  have sa := txt_size ha
  have sr := txt_size hr
  have so := txt_size ho
  have sk := txt_size hk
  have sn := txt_size (n := (n : Int)) ⟨by omega, hn⟩
  go_enter Tryd.func5, Tryd.ntmps5
  have hp1 : Hid True := trivial
  go_wp2_with fail
  have X0 : Below w.heap.size w ((w.alloc (.cells #[.slice pA n pc, .int .i64 a, .int .i64 p, .int .i64 r, .int .i64 o, .int .i64 k, v6, v7, v8] 28)).alloc (.cells (#[.string ⟨#[105, 100, 108, 101]⟩, .string ⟨#[99, 111, 109, 109, 97, 110, 100]⟩, .string ⟨#[112, 114, 111, 98, 101]⟩, .string ⟨#[117, 110, 100, 111]⟩, .string ⟨#[99, 108, 101, 97, 114]⟩, .string ⟨#[102, 97, 105, 108, 101, 100]⟩, .string ⟨#[102, 105, 110, 105, 115, 104, 101, 100]⟩]) 9)) := ext_alloc (ext_alloc (ext_refl w) (.cells #[.slice pA n pc, .int .i64 a, .int .i64 p, .int .i64 r, .int .i64 o, .int .i64 k, v6, v7, v8] 28)) (.cells (#[.string ⟨#[105, 100, 108, 101]⟩, .string ⟨#[99, 111, 109, 109, 97, 110, 100]⟩, .string ⟨#[112, 114, 111, 98, 101]⟩, .string ⟨#[117, 110, 100, 111]⟩, .string ⟨#[99, 108, 101, 97, 114]⟩, .string ⟨#[102, 97, 105, 108, 101, 100]⟩, .string ⟨#[102, 105, 110, 105, 115, 104, 101, 100]⟩]) 9)
  have P0 : Blk ((w.alloc (.cells #[.slice pA n pc, .int .i64 a, .int .i64 p, .int .i64 r, .int .i64 o, .int .i64 k, v6, v7, v8] 28)).alloc (.cells (#[.string ⟨#[105, 100, 108, 101]⟩, .string ⟨#[99, 111, 109, 109, 97, 110, 100]⟩, .string ⟨#[112, 114, 111, 98, 101]⟩, .string ⟨#[117, 110, 100, 111]⟩, .string ⟨#[99, 108, 101, 97, 114]⟩, .string ⟨#[102, 97, 105, 108, 101, 100]⟩, .string ⟨#[102, 105, 110, 105, 115, 104, 101, 100]⟩]) 9)) w.heap.size 28 #[.slice pA n pc, .int .i64 a, .int .i64 p, .int .i64 r, .int .i64 o, .int .i64 k, v6, v7, v8] := by (repeat (first | assumption | (with_reducible refine Blk.new' ?_; simp; done) | with_reducible refine Blk.alloc ?_ _ | with_reducible refine Blk.drew ?_ | with_reducible refine Blk.ext ?_ (by assumption)))
  generalize ((w.alloc (.cells #[.slice pA n pc, .int .i64 a, .int .i64 p, .int .i64 r, .int .i64 o, .int .i64 k, v6, v7, v8] 28)).alloc (.cells (#[.string ⟨#[105, 100, 108, 101]⟩, .string ⟨#[99, 111, 109, 109, 97, 110, 100]⟩, .string ⟨#[112, 114, 111, 98, 101]⟩, .string ⟨#[117, 110, 100, 111]⟩, .string ⟨#[99, 108, 101, 97, 114]⟩, .string ⟨#[102, 97, 105, 108, 101, 100]⟩, .string ⟨#[102, 105, 110, 105, 115, 104, 101, 100]⟩]) 9)) = W0 at X0 P0 ⊢
  have T0 := TabIs_ext ht X0
  have X0 := hid X0
  have Fa : ∀ x : World, Below W0.heap.size W0 x → Calls Tryd.prog 11 #[.int .i64 a] x fun e w' => e = .returned (.string (txt a)) ∧ Below x.heap.size x w' := fun x hx => itoaC a ha x (TabIs_ext T0 hx)
  have Fn : ∀ x : World, Below W0.heap.size W0 x → Calls Tryd.prog 11 #[.int .i64 n] x fun e w' => e = .returned (.string (txt n)) ∧ Below x.heap.size x w' := fun x hx => itoaC n ⟨by omega, hn⟩ x (TabIs_ext T0 hx)
  have cP := gr_blk P0
  refine wp_region_gr (by kernel_rfl) (by kernel_rfl) ?_
  repeat (go_big_quiet_step (first | (go_at_call 11; with_reducible exact gr_of (Fa _ (Gr.ok _))) | (go_at_call 11; with_reducible exact gr_of (Fn _ (Gr.ok _)))))
  refine wpQuiet_nil ?_
  intro w1 hw'
  have hb1 := gr_out hw'
  clear hw'
  clear cP Fa Fn
  have T1 := TabIs_ext T0 hb1
  have P1 := P0.ext hb1
  have X1 := hid (ext_step X0.out hb1)
  clear hb1 T0 P0 X0
  have Fr : ∀ x : World, Below w1.heap.size w1 x → Calls Tryd.prog 11 #[.int .i64 r] x fun e w' => e = .returned (.string (txt r)) ∧ Below x.heap.size x w' := fun x hx => itoaC r hr x (TabIs_ext T1 hx)
  have Fo : ∀ x : World, Below w1.heap.size w1 x → Calls Tryd.prog 11 #[.int .i64 o] x fun e w' => e = .returned (.string (txt o)) ∧ Below x.heap.size x w' := fun x hx => itoaC o ho x (TabIs_ext T1 hx)
  have Fk : ∀ x : World, Below w1.heap.size w1 x → Calls Tryd.prog 12 #[.int .i64 k, .int .i64 10] x fun e w' => e = .returned (.string (txt k)) ∧ Below x.heap.size x w' := fun x hx => fmtC k hk x (TabIs_ext T1 hx)
  have cP := gr_blk P1
  try go_wp2_with fail
  refine wp_region_gr (by kernel_rfl) (by kernel_rfl) ?_
  repeat (go_big_quiet_step (first | (go_at_call 12; with_reducible exact gr_of (Fk _ (Gr.ok _))) | (go_at_call 11; with_reducible exact gr_of (Fr _ (Gr.ok _))) | (go_at_call 11; with_reducible exact gr_of (Fo _ (Gr.ok _)))))
  refine wpQuiet_nil ?_
  intro w2 hw'
  have hb2 := gr_out hw'
  clear hw'
  have X2 := ext_step X1.out hb2
  go_wp2_with fail
  go_ret
  exact ⟨rfl, X2⟩
theorem stR0 (pA : Option Addr) (n pc : Nat) (a r o k : Int) (v6 v7 v8 : Value) (w : World) (hn : (n : Int) ≤ 9223372036854775807) (ha : -9223372036854775808 ≤ a ∧ a ≤ 9223372036854775807) (hr : -9223372036854775808 ≤ r ∧ r ≤ 9223372036854775807) (ho : -9223372036854775808 ≤ o ∧ o ≤ 9223372036854775807) (hk : -9223372036854775808 ≤ k ∧ k ≤ 9223372036854775807) :
    Calls Tryd.prog 6 #[.agg #[.slice pA n pc, .int .i64 a, .int .i64 0, .int .i64 r, .int .i64 o, .int .i64 k, v6, v7, v8]] w fun e w' => e = .returned (.string (statOf ⟨#[105, 100, 108, 101]⟩ a n r o k)) ∧ Below w.heap.size w w' := by
  have sa := txt_size ha
  have sr := txt_size hr
  have so := txt_size ho
  have sk := txt_size hk
  have sn := txt_size (n := (n : Int)) ⟨by omega, hn⟩
  go_enter Tryd.func6, Tryd.ntmps6
  go_wp2_with fail
  have X0 : Below w.heap.size w ((w.alloc (.cells #[.slice pA n pc, .int .i64 a, .int .i64 0, .int .i64 r, .int .i64 o, .int .i64 k, v6, v7, v8] 28)).alloc (.cells (#[.string ⟨#[105, 100, 108, 101]⟩, .string ⟨#[99, 111, 109, 109, 97, 110, 100]⟩, .string ⟨#[112, 114, 111, 98, 101]⟩, .string ⟨#[117, 110, 100, 111]⟩, .string ⟨#[99, 108, 101, 97, 114]⟩, .string ⟨#[102, 97, 105, 108, 101, 100]⟩, .string ⟨#[102, 105, 110, 105, 115, 104, 101, 100]⟩]) 9)) := ext_alloc (ext_alloc (ext_refl w) (.cells #[.slice pA n pc, .int .i64 a, .int .i64 0, .int .i64 r, .int .i64 o, .int .i64 k, v6, v7, v8] 28)) (.cells (#[.string ⟨#[105, 100, 108, 101]⟩, .string ⟨#[99, 111, 109, 109, 97, 110, 100]⟩, .string ⟨#[112, 114, 111, 98, 101]⟩, .string ⟨#[117, 110, 100, 111]⟩, .string ⟨#[99, 108, 101, 97, 114]⟩, .string ⟨#[102, 97, 105, 108, 101, 100]⟩, .string ⟨#[102, 105, 110, 105, 115, 104, 101, 100]⟩]) 9)
  have P0 : Blk ((w.alloc (.cells #[.slice pA n pc, .int .i64 a, .int .i64 0, .int .i64 r, .int .i64 o, .int .i64 k, v6, v7, v8] 28)).alloc (.cells (#[.string ⟨#[105, 100, 108, 101]⟩, .string ⟨#[99, 111, 109, 109, 97, 110, 100]⟩, .string ⟨#[112, 114, 111, 98, 101]⟩, .string ⟨#[117, 110, 100, 111]⟩, .string ⟨#[99, 108, 101, 97, 114]⟩, .string ⟨#[102, 97, 105, 108, 101, 100]⟩, .string ⟨#[102, 105, 110, 105, 115, 104, 101, 100]⟩]) 9)) w.heap.size 28 #[.slice pA n pc, .int .i64 a, .int .i64 0, .int .i64 r, .int .i64 o, .int .i64 k, v6, v7, v8] := by (repeat (first | assumption | (with_reducible refine Blk.new' ?_; simp; done) | with_reducible refine Blk.alloc ?_ _ | with_reducible refine Blk.drew ?_ | with_reducible refine Blk.ext ?_ (by assumption)))
  generalize ((w.alloc (.cells #[.slice pA n pc, .int .i64 a, .int .i64 0, .int .i64 r, .int .i64 o, .int .i64 k, v6, v7, v8] 28)).alloc (.cells (#[.string ⟨#[105, 100, 108, 101]⟩, .string ⟨#[99, 111, 109, 109, 97, 110, 100]⟩, .string ⟨#[112, 114, 111, 98, 101]⟩, .string ⟨#[117, 110, 100, 111]⟩, .string ⟨#[99, 108, 101, 97, 114]⟩, .string ⟨#[102, 97, 105, 108, 101, 100]⟩, .string ⟨#[102, 105, 110, 105, 115, 104, 101, 100]⟩]) 9)) = W0 at X0 P0 ⊢
  have X0 := hid X0
  have Fa : ∀ x : World, Below W0.heap.size W0 x → Calls Tryd.prog 13 #[.int .i64 a] x fun e w' => e = .returned (.string (txt a)) ∧ Below x.heap.size x w' := fun x hx => (digitsC a ha x).mono fun e w' ⟨h1, h2⟩ => ⟨h1, h2 ▸ ext_refl _⟩
  have Fn : ∀ x : World, Below W0.heap.size W0 x → Calls Tryd.prog 13 #[.int .i64 n] x fun e w' => e = .returned (.string (txt n)) ∧ Below x.heap.size x w' := fun x hx => (digitsC n ⟨by omega, hn⟩ x).mono fun e w' ⟨h1, h2⟩ => ⟨h1, h2 ▸ ext_refl _⟩
  have Fr : ∀ x : World, Below W0.heap.size W0 x → Calls Tryd.prog 13 #[.int .i64 r] x fun e w' => e = .returned (.string (txt r)) ∧ Below x.heap.size x w' := fun x hx => (digitsC r hr x).mono fun e w' ⟨h1, h2⟩ => ⟨h1, h2 ▸ ext_refl _⟩
  have Fo : ∀ x : World, Below W0.heap.size W0 x → Calls Tryd.prog 13 #[.int .i64 o] x fun e w' => e = .returned (.string (txt o)) ∧ Below x.heap.size x w' := fun x hx => (digitsC o ho x).mono fun e w' ⟨h1, h2⟩ => ⟨h1, h2 ▸ ext_refl _⟩
  have Fk : ∀ x : World, Below W0.heap.size W0 x → Calls Tryd.prog 13 #[.int .i64 k] x fun e w' => e = .returned (.string (txt k)) ∧ Below x.heap.size x w' := fun x hx => (digitsC k hk x).mono fun e w' ⟨h1, h2⟩ => ⟨h1, h2 ▸ ext_refl _⟩
  have cP := gr_blk P0
  refine wp_region_gr (by kernel_rfl) (by kernel_rfl) ?_
  repeat (go_big_quiet_step (first | (go_at_call 13; with_reducible exact gr_of (Fa _ (Gr.ok _))) | (go_at_call 13; with_reducible exact gr_of (Fn _ (Gr.ok _))) | (go_at_call 13; with_reducible exact gr_of (Fr _ (Gr.ok _))) | (go_at_call 13; with_reducible exact gr_of (Fo _ (Gr.ok _))) | (go_at_call 13; with_reducible exact gr_of (Fk _ (Gr.ok _)))))
  refine wpQuiet_nil ?_
  intro w2 hw'
  have hb2 := gr_out hw'
  clear hw'
  have X2 := ext_step X0.out hb2
  go_wp2_with fail
  go_ret
  exact ⟨rfl, X2⟩
theorem stR1 (pA : Option Addr) (n pc : Nat) (a r o k : Int) (v6 v7 v8 : Value) (w : World) (hn : (n : Int) ≤ 9223372036854775807) (ha : -9223372036854775808 ≤ a ∧ a ≤ 9223372036854775807) (hr : -9223372036854775808 ≤ r ∧ r ≤ 9223372036854775807) (ho : -9223372036854775808 ≤ o ∧ o ≤ 9223372036854775807) (hk : -9223372036854775808 ≤ k ∧ k ≤ 9223372036854775807) :
    Calls Tryd.prog 6 #[.agg #[.slice pA n pc, .int .i64 a, .int .i64 1, .int .i64 r, .int .i64 o, .int .i64 k, v6, v7, v8]] w fun e w' => e = .returned (.string (statOf ⟨#[99, 111, 109, 109, 97, 110, 100]⟩ a n r o k)) ∧ Below w.heap.size w w' := by
  have sa := txt_size ha
  have sr := txt_size hr
  have so := txt_size ho
  have sk := txt_size hk
  have sn := txt_size (n := (n : Int)) ⟨by omega, hn⟩
  go_enter Tryd.func6, Tryd.ntmps6
  go_wp2_with fail
  have X0 : Below w.heap.size w ((w.alloc (.cells #[.slice pA n pc, .int .i64 a, .int .i64 1, .int .i64 r, .int .i64 o, .int .i64 k, v6, v7, v8] 28)).alloc (.cells (#[.string ⟨#[105, 100, 108, 101]⟩, .string ⟨#[99, 111, 109, 109, 97, 110, 100]⟩, .string ⟨#[112, 114, 111, 98, 101]⟩, .string ⟨#[117, 110, 100, 111]⟩, .string ⟨#[99, 108, 101, 97, 114]⟩, .string ⟨#[102, 97, 105, 108, 101, 100]⟩, .string ⟨#[102, 105, 110, 105, 115, 104, 101, 100]⟩]) 9)) := ext_alloc (ext_alloc (ext_refl w) (.cells #[.slice pA n pc, .int .i64 a, .int .i64 1, .int .i64 r, .int .i64 o, .int .i64 k, v6, v7, v8] 28)) (.cells (#[.string ⟨#[105, 100, 108, 101]⟩, .string ⟨#[99, 111, 109, 109, 97, 110, 100]⟩, .string ⟨#[112, 114, 111, 98, 101]⟩, .string ⟨#[117, 110, 100, 111]⟩, .string ⟨#[99, 108, 101, 97, 114]⟩, .string ⟨#[102, 97, 105, 108, 101, 100]⟩, .string ⟨#[102, 105, 110, 105, 115, 104, 101, 100]⟩]) 9)
  have P0 : Blk ((w.alloc (.cells #[.slice pA n pc, .int .i64 a, .int .i64 1, .int .i64 r, .int .i64 o, .int .i64 k, v6, v7, v8] 28)).alloc (.cells (#[.string ⟨#[105, 100, 108, 101]⟩, .string ⟨#[99, 111, 109, 109, 97, 110, 100]⟩, .string ⟨#[112, 114, 111, 98, 101]⟩, .string ⟨#[117, 110, 100, 111]⟩, .string ⟨#[99, 108, 101, 97, 114]⟩, .string ⟨#[102, 97, 105, 108, 101, 100]⟩, .string ⟨#[102, 105, 110, 105, 115, 104, 101, 100]⟩]) 9)) w.heap.size 28 #[.slice pA n pc, .int .i64 a, .int .i64 1, .int .i64 r, .int .i64 o, .int .i64 k, v6, v7, v8] := by (repeat (first | assumption | (with_reducible refine Blk.new' ?_; simp; done) | with_reducible refine Blk.alloc ?_ _ | with_reducible refine Blk.drew ?_ | with_reducible refine Blk.ext ?_ (by assumption)))
  generalize ((w.alloc (.cells #[.slice pA n pc, .int .i64 a, .int .i64 1, .int .i64 r, .int .i64 o, .int .i64 k, v6, v7, v8] 28)).alloc (.cells (#[.string ⟨#[105, 100, 108, 101]⟩, .string ⟨#[99, 111, 109, 109, 97, 110, 100]⟩, .string ⟨#[112, 114, 111, 98, 101]⟩, .string ⟨#[117, 110, 100, 111]⟩, .string ⟨#[99, 108, 101, 97, 114]⟩, .string ⟨#[102, 97, 105, 108, 101, 100]⟩, .string ⟨#[102, 105, 110, 105, 115, 104, 101, 100]⟩]) 9)) = W0 at X0 P0 ⊢
  have X0 := hid X0
  have Fa : ∀ x : World, Below W0.heap.size W0 x → Calls Tryd.prog 13 #[.int .i64 a] x fun e w' => e = .returned (.string (txt a)) ∧ Below x.heap.size x w' := fun x hx => (digitsC a ha x).mono fun e w' ⟨h1, h2⟩ => ⟨h1, h2 ▸ ext_refl _⟩
  have Fn : ∀ x : World, Below W0.heap.size W0 x → Calls Tryd.prog 13 #[.int .i64 n] x fun e w' => e = .returned (.string (txt n)) ∧ Below x.heap.size x w' := fun x hx => (digitsC n ⟨by omega, hn⟩ x).mono fun e w' ⟨h1, h2⟩ => ⟨h1, h2 ▸ ext_refl _⟩
  have Fr : ∀ x : World, Below W0.heap.size W0 x → Calls Tryd.prog 13 #[.int .i64 r] x fun e w' => e = .returned (.string (txt r)) ∧ Below x.heap.size x w' := fun x hx => (digitsC r hr x).mono fun e w' ⟨h1, h2⟩ => ⟨h1, h2 ▸ ext_refl _⟩
  have Fo : ∀ x : World, Below W0.heap.size W0 x → Calls Tryd.prog 13 #[.int .i64 o] x fun e w' => e = .returned (.string (txt o)) ∧ Below x.heap.size x w' := fun x hx => (digitsC o ho x).mono fun e w' ⟨h1, h2⟩ => ⟨h1, h2 ▸ ext_refl _⟩
  have Fk : ∀ x : World, Below W0.heap.size W0 x → Calls Tryd.prog 13 #[.int .i64 k] x fun e w' => e = .returned (.string (txt k)) ∧ Below x.heap.size x w' := fun x hx => (digitsC k hk x).mono fun e w' ⟨h1, h2⟩ => ⟨h1, h2 ▸ ext_refl _⟩
  have cP := gr_blk P0
  refine wp_region_gr (by kernel_rfl) (by kernel_rfl) ?_
  repeat (go_big_quiet_step (first | (go_at_call 13; with_reducible exact gr_of (Fa _ (Gr.ok _))) | (go_at_call 13; with_reducible exact gr_of (Fn _ (Gr.ok _))) | (go_at_call 13; with_reducible exact gr_of (Fr _ (Gr.ok _))) | (go_at_call 13; with_reducible exact gr_of (Fo _ (Gr.ok _))) | (go_at_call 13; with_reducible exact gr_of (Fk _ (Gr.ok _)))))
  refine wpQuiet_nil ?_
  intro w2 hw'
  have hb2 := gr_out hw'
  clear hw'
  have X2 := ext_step X0.out hb2
  go_wp2_with fail
  go_ret
  exact ⟨rfl, X2⟩
theorem stR2 (pA : Option Addr) (n pc : Nat) (a r o k : Int) (v6 v7 v8 : Value) (w : World) (hn : (n : Int) ≤ 9223372036854775807) (ha : -9223372036854775808 ≤ a ∧ a ≤ 9223372036854775807) (hr : -9223372036854775808 ≤ r ∧ r ≤ 9223372036854775807) (ho : -9223372036854775808 ≤ o ∧ o ≤ 9223372036854775807) (hk : -9223372036854775808 ≤ k ∧ k ≤ 9223372036854775807) :
    Calls Tryd.prog 6 #[.agg #[.slice pA n pc, .int .i64 a, .int .i64 2, .int .i64 r, .int .i64 o, .int .i64 k, v6, v7, v8]] w fun e w' => e = .returned (.string (statOf ⟨#[112, 114, 111, 98, 101]⟩ a n r o k)) ∧ Below w.heap.size w w' := by
  have sa := txt_size ha
  have sr := txt_size hr
  have so := txt_size ho
  have sk := txt_size hk
  have sn := txt_size (n := (n : Int)) ⟨by omega, hn⟩
  go_enter Tryd.func6, Tryd.ntmps6
  go_wp2_with fail
  have X0 : Below w.heap.size w ((w.alloc (.cells #[.slice pA n pc, .int .i64 a, .int .i64 2, .int .i64 r, .int .i64 o, .int .i64 k, v6, v7, v8] 28)).alloc (.cells (#[.string ⟨#[105, 100, 108, 101]⟩, .string ⟨#[99, 111, 109, 109, 97, 110, 100]⟩, .string ⟨#[112, 114, 111, 98, 101]⟩, .string ⟨#[117, 110, 100, 111]⟩, .string ⟨#[99, 108, 101, 97, 114]⟩, .string ⟨#[102, 97, 105, 108, 101, 100]⟩, .string ⟨#[102, 105, 110, 105, 115, 104, 101, 100]⟩]) 9)) := ext_alloc (ext_alloc (ext_refl w) (.cells #[.slice pA n pc, .int .i64 a, .int .i64 2, .int .i64 r, .int .i64 o, .int .i64 k, v6, v7, v8] 28)) (.cells (#[.string ⟨#[105, 100, 108, 101]⟩, .string ⟨#[99, 111, 109, 109, 97, 110, 100]⟩, .string ⟨#[112, 114, 111, 98, 101]⟩, .string ⟨#[117, 110, 100, 111]⟩, .string ⟨#[99, 108, 101, 97, 114]⟩, .string ⟨#[102, 97, 105, 108, 101, 100]⟩, .string ⟨#[102, 105, 110, 105, 115, 104, 101, 100]⟩]) 9)
  have P0 : Blk ((w.alloc (.cells #[.slice pA n pc, .int .i64 a, .int .i64 2, .int .i64 r, .int .i64 o, .int .i64 k, v6, v7, v8] 28)).alloc (.cells (#[.string ⟨#[105, 100, 108, 101]⟩, .string ⟨#[99, 111, 109, 109, 97, 110, 100]⟩, .string ⟨#[112, 114, 111, 98, 101]⟩, .string ⟨#[117, 110, 100, 111]⟩, .string ⟨#[99, 108, 101, 97, 114]⟩, .string ⟨#[102, 97, 105, 108, 101, 100]⟩, .string ⟨#[102, 105, 110, 105, 115, 104, 101, 100]⟩]) 9)) w.heap.size 28 #[.slice pA n pc, .int .i64 a, .int .i64 2, .int .i64 r, .int .i64 o, .int .i64 k, v6, v7, v8] := by (repeat (first | assumption | (with_reducible refine Blk.new' ?_; simp; done) | with_reducible refine Blk.alloc ?_ _ | with_reducible refine Blk.drew ?_ | with_reducible refine Blk.ext ?_ (by assumption)))
  generalize ((w.alloc (.cells #[.slice pA n pc, .int .i64 a, .int .i64 2, .int .i64 r, .int .i64 o, .int .i64 k, v6, v7, v8] 28)).alloc (.cells (#[.string ⟨#[105, 100, 108, 101]⟩, .string ⟨#[99, 111, 109, 109, 97, 110, 100]⟩, .string ⟨#[112, 114, 111, 98, 101]⟩, .string ⟨#[117, 110, 100, 111]⟩, .string ⟨#[99, 108, 101, 97, 114]⟩, .string ⟨#[102, 97, 105, 108, 101, 100]⟩, .string ⟨#[102, 105, 110, 105, 115, 104, 101, 100]⟩]) 9)) = W0 at X0 P0 ⊢
  have X0 := hid X0
  have Fa : ∀ x : World, Below W0.heap.size W0 x → Calls Tryd.prog 13 #[.int .i64 a] x fun e w' => e = .returned (.string (txt a)) ∧ Below x.heap.size x w' := fun x hx => (digitsC a ha x).mono fun e w' ⟨h1, h2⟩ => ⟨h1, h2 ▸ ext_refl _⟩
  have Fn : ∀ x : World, Below W0.heap.size W0 x → Calls Tryd.prog 13 #[.int .i64 n] x fun e w' => e = .returned (.string (txt n)) ∧ Below x.heap.size x w' := fun x hx => (digitsC n ⟨by omega, hn⟩ x).mono fun e w' ⟨h1, h2⟩ => ⟨h1, h2 ▸ ext_refl _⟩
  have Fr : ∀ x : World, Below W0.heap.size W0 x → Calls Tryd.prog 13 #[.int .i64 r] x fun e w' => e = .returned (.string (txt r)) ∧ Below x.heap.size x w' := fun x hx => (digitsC r hr x).mono fun e w' ⟨h1, h2⟩ => ⟨h1, h2 ▸ ext_refl _⟩
  have Fo : ∀ x : World, Below W0.heap.size W0 x → Calls Tryd.prog 13 #[.int .i64 o] x fun e w' => e = .returned (.string (txt o)) ∧ Below x.heap.size x w' := fun x hx => (digitsC o ho x).mono fun e w' ⟨h1, h2⟩ => ⟨h1, h2 ▸ ext_refl _⟩
  have Fk : ∀ x : World, Below W0.heap.size W0 x → Calls Tryd.prog 13 #[.int .i64 k] x fun e w' => e = .returned (.string (txt k)) ∧ Below x.heap.size x w' := fun x hx => (digitsC k hk x).mono fun e w' ⟨h1, h2⟩ => ⟨h1, h2 ▸ ext_refl _⟩
  have cP := gr_blk P0
  refine wp_region_gr (by kernel_rfl) (by kernel_rfl) ?_
  repeat (go_big_quiet_step (first | (go_at_call 13; with_reducible exact gr_of (Fa _ (Gr.ok _))) | (go_at_call 13; with_reducible exact gr_of (Fn _ (Gr.ok _))) | (go_at_call 13; with_reducible exact gr_of (Fr _ (Gr.ok _))) | (go_at_call 13; with_reducible exact gr_of (Fo _ (Gr.ok _))) | (go_at_call 13; with_reducible exact gr_of (Fk _ (Gr.ok _)))))
  refine wpQuiet_nil ?_
  intro w2 hw'
  have hb2 := gr_out hw'
  clear hw'
  have X2 := ext_step X0.out hb2
  go_wp2_with fail
  go_ret
  exact ⟨rfl, X2⟩
theorem stR3 (pA : Option Addr) (n pc : Nat) (a r o k : Int) (v6 v7 v8 : Value) (w : World) (hn : (n : Int) ≤ 9223372036854775807) (ha : -9223372036854775808 ≤ a ∧ a ≤ 9223372036854775807) (hr : -9223372036854775808 ≤ r ∧ r ≤ 9223372036854775807) (ho : -9223372036854775808 ≤ o ∧ o ≤ 9223372036854775807) (hk : -9223372036854775808 ≤ k ∧ k ≤ 9223372036854775807) :
    Calls Tryd.prog 6 #[.agg #[.slice pA n pc, .int .i64 a, .int .i64 3, .int .i64 r, .int .i64 o, .int .i64 k, v6, v7, v8]] w fun e w' => e = .returned (.string (statOf ⟨#[117, 110, 100, 111]⟩ a n r o k)) ∧ Below w.heap.size w w' := by
  have sa := txt_size ha
  have sr := txt_size hr
  have so := txt_size ho
  have sk := txt_size hk
  have sn := txt_size (n := (n : Int)) ⟨by omega, hn⟩
  go_enter Tryd.func6, Tryd.ntmps6
  go_wp2_with fail
  have X0 : Below w.heap.size w ((w.alloc (.cells #[.slice pA n pc, .int .i64 a, .int .i64 3, .int .i64 r, .int .i64 o, .int .i64 k, v6, v7, v8] 28)).alloc (.cells (#[.string ⟨#[105, 100, 108, 101]⟩, .string ⟨#[99, 111, 109, 109, 97, 110, 100]⟩, .string ⟨#[112, 114, 111, 98, 101]⟩, .string ⟨#[117, 110, 100, 111]⟩, .string ⟨#[99, 108, 101, 97, 114]⟩, .string ⟨#[102, 97, 105, 108, 101, 100]⟩, .string ⟨#[102, 105, 110, 105, 115, 104, 101, 100]⟩]) 9)) := ext_alloc (ext_alloc (ext_refl w) (.cells #[.slice pA n pc, .int .i64 a, .int .i64 3, .int .i64 r, .int .i64 o, .int .i64 k, v6, v7, v8] 28)) (.cells (#[.string ⟨#[105, 100, 108, 101]⟩, .string ⟨#[99, 111, 109, 109, 97, 110, 100]⟩, .string ⟨#[112, 114, 111, 98, 101]⟩, .string ⟨#[117, 110, 100, 111]⟩, .string ⟨#[99, 108, 101, 97, 114]⟩, .string ⟨#[102, 97, 105, 108, 101, 100]⟩, .string ⟨#[102, 105, 110, 105, 115, 104, 101, 100]⟩]) 9)
  have P0 : Blk ((w.alloc (.cells #[.slice pA n pc, .int .i64 a, .int .i64 3, .int .i64 r, .int .i64 o, .int .i64 k, v6, v7, v8] 28)).alloc (.cells (#[.string ⟨#[105, 100, 108, 101]⟩, .string ⟨#[99, 111, 109, 109, 97, 110, 100]⟩, .string ⟨#[112, 114, 111, 98, 101]⟩, .string ⟨#[117, 110, 100, 111]⟩, .string ⟨#[99, 108, 101, 97, 114]⟩, .string ⟨#[102, 97, 105, 108, 101, 100]⟩, .string ⟨#[102, 105, 110, 105, 115, 104, 101, 100]⟩]) 9)) w.heap.size 28 #[.slice pA n pc, .int .i64 a, .int .i64 3, .int .i64 r, .int .i64 o, .int .i64 k, v6, v7, v8] := by (repeat (first | assumption | (with_reducible refine Blk.new' ?_; simp; done) | with_reducible refine Blk.alloc ?_ _ | with_reducible refine Blk.drew ?_ | with_reducible refine Blk.ext ?_ (by assumption)))
  generalize ((w.alloc (.cells #[.slice pA n pc, .int .i64 a, .int .i64 3, .int .i64 r, .int .i64 o, .int .i64 k, v6, v7, v8] 28)).alloc (.cells (#[.string ⟨#[105, 100, 108, 101]⟩, .string ⟨#[99, 111, 109, 109, 97, 110, 100]⟩, .string ⟨#[112, 114, 111, 98, 101]⟩, .string ⟨#[117, 110, 100, 111]⟩, .string ⟨#[99, 108, 101, 97, 114]⟩, .string ⟨#[102, 97, 105, 108, 101, 100]⟩, .string ⟨#[102, 105, 110, 105, 115, 104, 101, 100]⟩]) 9)) = W0 at X0 P0 ⊢
  have X0 := hid X0
  have Fa : ∀ x : World, Below W0.heap.size W0 x → Calls Tryd.prog 13 #[.int .i64 a] x fun e w' => e = .returned (.string (txt a)) ∧ Below x.heap.size x w' := fun x hx => (digitsC a ha x).mono fun e w' ⟨h1, h2⟩ => ⟨h1, h2 ▸ ext_refl _⟩
  have Fn : ∀ x : World, Below W0.heap.size W0 x → Calls Tryd.prog 13 #[.int .i64 n] x fun e w' => e = .returned (.string (txt n)) ∧ Below x.heap.size x w' := fun x hx => (digitsC n ⟨by omega, hn⟩ x).mono fun e w' ⟨h1, h2⟩ => ⟨h1, h2 ▸ ext_refl _⟩
  have Fr : ∀ x : World, Below W0.heap.size W0 x → Calls Tryd.prog 13 #[.int .i64 r] x fun e w' => e = .returned (.string (txt r)) ∧ Below x.heap.size x w' := fun x hx => (digitsC r hr x).mono fun e w' ⟨h1, h2⟩ => ⟨h1, h2 ▸ ext_refl _⟩
  have Fo : ∀ x : World, Below W0.heap.size W0 x → Calls Tryd.prog 13 #[.int .i64 o] x fun e w' => e = .returned (.string (txt o)) ∧ Below x.heap.size x w' := fun x hx => (digitsC o ho x).mono fun e w' ⟨h1, h2⟩ => ⟨h1, h2 ▸ ext_refl _⟩
  have Fk : ∀ x : World, Below W0.heap.size W0 x → Calls Tryd.prog 13 #[.int .i64 k] x fun e w' => e = .returned (.string (txt k)) ∧ Below x.heap.size x w' := fun x hx => (digitsC k hk x).mono fun e w' ⟨h1, h2⟩ => ⟨h1, h2 ▸ ext_refl _⟩
  have cP := gr_blk P0
  refine wp_region_gr (by kernel_rfl) (by kernel_rfl) ?_
  repeat (go_big_quiet_step (first | (go_at_call 13; with_reducible exact gr_of (Fa _ (Gr.ok _))) | (go_at_call 13; with_reducible exact gr_of (Fn _ (Gr.ok _))) | (go_at_call 13; with_reducible exact gr_of (Fr _ (Gr.ok _))) | (go_at_call 13; with_reducible exact gr_of (Fo _ (Gr.ok _))) | (go_at_call 13; with_reducible exact gr_of (Fk _ (Gr.ok _)))))
  refine wpQuiet_nil ?_
  intro w2 hw'
  have hb2 := gr_out hw'
  clear hw'
  have X2 := ext_step X0.out hb2
  go_wp2_with fail
  go_ret
  exact ⟨rfl, X2⟩
theorem stR4 (pA : Option Addr) (n pc : Nat) (a r o k : Int) (v6 v7 v8 : Value) (w : World) (hn : (n : Int) ≤ 9223372036854775807) (ha : -9223372036854775808 ≤ a ∧ a ≤ 9223372036854775807) (hr : -9223372036854775808 ≤ r ∧ r ≤ 9223372036854775807) (ho : -9223372036854775808 ≤ o ∧ o ≤ 9223372036854775807) (hk : -9223372036854775808 ≤ k ∧ k ≤ 9223372036854775807) :
    Calls Tryd.prog 6 #[.agg #[.slice pA n pc, .int .i64 a, .int .i64 4, .int .i64 r, .int .i64 o, .int .i64 k, v6, v7, v8]] w fun e w' => e = .returned (.string (statOf ⟨#[99, 108, 101, 97, 114]⟩ a n r o k)) ∧ Below w.heap.size w w' := by
  have sa := txt_size ha
  have sr := txt_size hr
  have so := txt_size ho
  have sk := txt_size hk
  have sn := txt_size (n := (n : Int)) ⟨by omega, hn⟩
  go_enter Tryd.func6, Tryd.ntmps6
  go_wp2_with fail
  have X0 : Below w.heap.size w ((w.alloc (.cells #[.slice pA n pc, .int .i64 a, .int .i64 4, .int .i64 r, .int .i64 o, .int .i64 k, v6, v7, v8] 28)).alloc (.cells (#[.string ⟨#[105, 100, 108, 101]⟩, .string ⟨#[99, 111, 109, 109, 97, 110, 100]⟩, .string ⟨#[112, 114, 111, 98, 101]⟩, .string ⟨#[117, 110, 100, 111]⟩, .string ⟨#[99, 108, 101, 97, 114]⟩, .string ⟨#[102, 97, 105, 108, 101, 100]⟩, .string ⟨#[102, 105, 110, 105, 115, 104, 101, 100]⟩]) 9)) := ext_alloc (ext_alloc (ext_refl w) (.cells #[.slice pA n pc, .int .i64 a, .int .i64 4, .int .i64 r, .int .i64 o, .int .i64 k, v6, v7, v8] 28)) (.cells (#[.string ⟨#[105, 100, 108, 101]⟩, .string ⟨#[99, 111, 109, 109, 97, 110, 100]⟩, .string ⟨#[112, 114, 111, 98, 101]⟩, .string ⟨#[117, 110, 100, 111]⟩, .string ⟨#[99, 108, 101, 97, 114]⟩, .string ⟨#[102, 97, 105, 108, 101, 100]⟩, .string ⟨#[102, 105, 110, 105, 115, 104, 101, 100]⟩]) 9)
  have P0 : Blk ((w.alloc (.cells #[.slice pA n pc, .int .i64 a, .int .i64 4, .int .i64 r, .int .i64 o, .int .i64 k, v6, v7, v8] 28)).alloc (.cells (#[.string ⟨#[105, 100, 108, 101]⟩, .string ⟨#[99, 111, 109, 109, 97, 110, 100]⟩, .string ⟨#[112, 114, 111, 98, 101]⟩, .string ⟨#[117, 110, 100, 111]⟩, .string ⟨#[99, 108, 101, 97, 114]⟩, .string ⟨#[102, 97, 105, 108, 101, 100]⟩, .string ⟨#[102, 105, 110, 105, 115, 104, 101, 100]⟩]) 9)) w.heap.size 28 #[.slice pA n pc, .int .i64 a, .int .i64 4, .int .i64 r, .int .i64 o, .int .i64 k, v6, v7, v8] := by (repeat (first | assumption | (with_reducible refine Blk.new' ?_; simp; done) | with_reducible refine Blk.alloc ?_ _ | with_reducible refine Blk.drew ?_ | with_reducible refine Blk.ext ?_ (by assumption)))
  generalize ((w.alloc (.cells #[.slice pA n pc, .int .i64 a, .int .i64 4, .int .i64 r, .int .i64 o, .int .i64 k, v6, v7, v8] 28)).alloc (.cells (#[.string ⟨#[105, 100, 108, 101]⟩, .string ⟨#[99, 111, 109, 109, 97, 110, 100]⟩, .string ⟨#[112, 114, 111, 98, 101]⟩, .string ⟨#[117, 110, 100, 111]⟩, .string ⟨#[99, 108, 101, 97, 114]⟩, .string ⟨#[102, 97, 105, 108, 101, 100]⟩, .string ⟨#[102, 105, 110, 105, 115, 104, 101, 100]⟩]) 9)) = W0 at X0 P0 ⊢
  have X0 := hid X0
  have Fa : ∀ x : World, Below W0.heap.size W0 x → Calls Tryd.prog 13 #[.int .i64 a] x fun e w' => e = .returned (.string (txt a)) ∧ Below x.heap.size x w' := fun x hx => (digitsC a ha x).mono fun e w' ⟨h1, h2⟩ => ⟨h1, h2 ▸ ext_refl _⟩
  have Fn : ∀ x : World, Below W0.heap.size W0 x → Calls Tryd.prog 13 #[.int .i64 n] x fun e w' => e = .returned (.string (txt n)) ∧ Below x.heap.size x w' := fun x hx => (digitsC n ⟨by omega, hn⟩ x).mono fun e w' ⟨h1, h2⟩ => ⟨h1, h2 ▸ ext_refl _⟩
  have Fr : ∀ x : World, Below W0.heap.size W0 x → Calls Tryd.prog 13 #[.int .i64 r] x fun e w' => e = .returned (.string (txt r)) ∧ Below x.heap.size x w' := fun x hx => (digitsC r hr x).mono fun e w' ⟨h1, h2⟩ => ⟨h1, h2 ▸ ext_refl _⟩
  have Fo : ∀ x : World, Below W0.heap.size W0 x → Calls Tryd.prog 13 #[.int .i64 o] x fun e w' => e = .returned (.string (txt o)) ∧ Below x.heap.size x w' := fun x hx => (digitsC o ho x).mono fun e w' ⟨h1, h2⟩ => ⟨h1, h2 ▸ ext_refl _⟩
  have Fk : ∀ x : World, Below W0.heap.size W0 x → Calls Tryd.prog 13 #[.int .i64 k] x fun e w' => e = .returned (.string (txt k)) ∧ Below x.heap.size x w' := fun x hx => (digitsC k hk x).mono fun e w' ⟨h1, h2⟩ => ⟨h1, h2 ▸ ext_refl _⟩
  have cP := gr_blk P0
  refine wp_region_gr (by kernel_rfl) (by kernel_rfl) ?_
  repeat (go_big_quiet_step (first | (go_at_call 13; with_reducible exact gr_of (Fa _ (Gr.ok _))) | (go_at_call 13; with_reducible exact gr_of (Fn _ (Gr.ok _))) | (go_at_call 13; with_reducible exact gr_of (Fr _ (Gr.ok _))) | (go_at_call 13; with_reducible exact gr_of (Fo _ (Gr.ok _))) | (go_at_call 13; with_reducible exact gr_of (Fk _ (Gr.ok _)))))
  refine wpQuiet_nil ?_
  intro w2 hw'
  have hb2 := gr_out hw'
  clear hw'
  have X2 := ext_step X0.out hb2
  go_wp2_with fail
  go_ret
  exact ⟨rfl, X2⟩
theorem stR5 (pA : Option Addr) (n pc : Nat) (a r o k : Int) (v6 v7 v8 : Value) (w : World) (hn : (n : Int) ≤ 9223372036854775807) (ha : -9223372036854775808 ≤ a ∧ a ≤ 9223372036854775807) (hr : -9223372036854775808 ≤ r ∧ r ≤ 9223372036854775807) (ho : -9223372036854775808 ≤ o ∧ o ≤ 9223372036854775807) (hk : -9223372036854775808 ≤ k ∧ k ≤ 9223372036854775807) :
    Calls Tryd.prog 6 #[.agg #[.slice pA n pc, .int .i64 a, .int .i64 5, .int .i64 r, .int .i64 o, .int .i64 k, v6, v7, v8]] w fun e w' => e = .returned (.string (statOf ⟨#[102, 97, 105, 108, 101, 100]⟩ a n r o k)) ∧ Below w.heap.size w w' := by
  have sa := txt_size ha
  have sr := txt_size hr
  have so := txt_size ho
  have sk := txt_size hk
  have sn := txt_size (n := (n : Int)) ⟨by omega, hn⟩
  go_enter Tryd.func6, Tryd.ntmps6
  go_wp2_with fail
  have X0 : Below w.heap.size w ((w.alloc (.cells #[.slice pA n pc, .int .i64 a, .int .i64 5, .int .i64 r, .int .i64 o, .int .i64 k, v6, v7, v8] 28)).alloc (.cells (#[.string ⟨#[105, 100, 108, 101]⟩, .string ⟨#[99, 111, 109, 109, 97, 110, 100]⟩, .string ⟨#[112, 114, 111, 98, 101]⟩, .string ⟨#[117, 110, 100, 111]⟩, .string ⟨#[99, 108, 101, 97, 114]⟩, .string ⟨#[102, 97, 105, 108, 101, 100]⟩, .string ⟨#[102, 105, 110, 105, 115, 104, 101, 100]⟩]) 9)) := ext_alloc (ext_alloc (ext_refl w) (.cells #[.slice pA n pc, .int .i64 a, .int .i64 5, .int .i64 r, .int .i64 o, .int .i64 k, v6, v7, v8] 28)) (.cells (#[.string ⟨#[105, 100, 108, 101]⟩, .string ⟨#[99, 111, 109, 109, 97, 110, 100]⟩, .string ⟨#[112, 114, 111, 98, 101]⟩, .string ⟨#[117, 110, 100, 111]⟩, .string ⟨#[99, 108, 101, 97, 114]⟩, .string ⟨#[102, 97, 105, 108, 101, 100]⟩, .string ⟨#[102, 105, 110, 105, 115, 104, 101, 100]⟩]) 9)
  have P0 : Blk ((w.alloc (.cells #[.slice pA n pc, .int .i64 a, .int .i64 5, .int .i64 r, .int .i64 o, .int .i64 k, v6, v7, v8] 28)).alloc (.cells (#[.string ⟨#[105, 100, 108, 101]⟩, .string ⟨#[99, 111, 109, 109, 97, 110, 100]⟩, .string ⟨#[112, 114, 111, 98, 101]⟩, .string ⟨#[117, 110, 100, 111]⟩, .string ⟨#[99, 108, 101, 97, 114]⟩, .string ⟨#[102, 97, 105, 108, 101, 100]⟩, .string ⟨#[102, 105, 110, 105, 115, 104, 101, 100]⟩]) 9)) w.heap.size 28 #[.slice pA n pc, .int .i64 a, .int .i64 5, .int .i64 r, .int .i64 o, .int .i64 k, v6, v7, v8] := by (repeat (first | assumption | (with_reducible refine Blk.new' ?_; simp; done) | with_reducible refine Blk.alloc ?_ _ | with_reducible refine Blk.drew ?_ | with_reducible refine Blk.ext ?_ (by assumption)))
  generalize ((w.alloc (.cells #[.slice pA n pc, .int .i64 a, .int .i64 5, .int .i64 r, .int .i64 o, .int .i64 k, v6, v7, v8] 28)).alloc (.cells (#[.string ⟨#[105, 100, 108, 101]⟩, .string ⟨#[99, 111, 109, 109, 97, 110, 100]⟩, .string ⟨#[112, 114, 111, 98, 101]⟩, .string ⟨#[117, 110, 100, 111]⟩, .string ⟨#[99, 108, 101, 97, 114]⟩, .string ⟨#[102, 97, 105, 108, 101, 100]⟩, .string ⟨#[102, 105, 110, 105, 115, 104, 101, 100]⟩]) 9)) = W0 at X0 P0 ⊢
  have X0 := hid X0
  have Fa : ∀ x : World, Below W0.heap.size W0 x → Calls Tryd.prog 13 #[.int .i64 a] x fun e w' => e = .returned (.string (txt a)) ∧ Below x.heap.size x w' := fun x hx => (digitsC a ha x).mono fun e w' ⟨h1, h2⟩ => ⟨h1, h2 ▸ ext_refl _⟩
  have Fn : ∀ x : World, Below W0.heap.size W0 x → Calls Tryd.prog 13 #[.int .i64 n] x fun e w' => e = .returned (.string (txt n)) ∧ Below x.heap.size x w' := fun x hx => (digitsC n ⟨by omega, hn⟩ x).mono fun e w' ⟨h1, h2⟩ => ⟨h1, h2 ▸ ext_refl _⟩
  have Fr : ∀ x : World, Below W0.heap.size W0 x → Calls Tryd.prog 13 #[.int .i64 r] x fun e w' => e = .returned (.string (txt r)) ∧ Below x.heap.size x w' := fun x hx => (digitsC r hr x).mono fun e w' ⟨h1, h2⟩ => ⟨h1, h2 ▸ ext_refl _⟩
  have Fo : ∀ x : World, Below W0.heap.size W0 x → Calls Tryd.prog 13 #[.int .i64 o] x fun e w' => e = .returned (.string (txt o)) ∧ Below x.heap.size x w' := fun x hx => (digitsC o ho x).mono fun e w' ⟨h1, h2⟩ => ⟨h1, h2 ▸ ext_refl _⟩
  have Fk : ∀ x : World, Below W0.heap.size W0 x → Calls Tryd.prog 13 #[.int .i64 k] x fun e w' => e = .returned (.string (txt k)) ∧ Below x.heap.size x w' := fun x hx => (digitsC k hk x).mono fun e w' ⟨h1, h2⟩ => ⟨h1, h2 ▸ ext_refl _⟩
  have cP := gr_blk P0
  refine wp_region_gr (by kernel_rfl) (by kernel_rfl) ?_
  repeat (go_big_quiet_step (first | (go_at_call 13; with_reducible exact gr_of (Fa _ (Gr.ok _))) | (go_at_call 13; with_reducible exact gr_of (Fn _ (Gr.ok _))) | (go_at_call 13; with_reducible exact gr_of (Fr _ (Gr.ok _))) | (go_at_call 13; with_reducible exact gr_of (Fo _ (Gr.ok _))) | (go_at_call 13; with_reducible exact gr_of (Fk _ (Gr.ok _)))))
  refine wpQuiet_nil ?_
  intro w2 hw'
  have hb2 := gr_out hw'
  clear hw'
  have X2 := ext_step X0.out hb2
  go_wp2_with fail
  go_ret
  exact ⟨rfl, X2⟩
theorem stR6 (pA : Option Addr) (n pc : Nat) (a r o k : Int) (v6 v7 v8 : Value) (w : World) (hn : (n : Int) ≤ 9223372036854775807) (ha : -9223372036854775808 ≤ a ∧ a ≤ 9223372036854775807) (hr : -9223372036854775808 ≤ r ∧ r ≤ 9223372036854775807) (ho : -9223372036854775808 ≤ o ∧ o ≤ 9223372036854775807) (hk : -9223372036854775808 ≤ k ∧ k ≤ 9223372036854775807) :
    Calls Tryd.prog 6 #[.agg #[.slice pA n pc, .int .i64 a, .int .i64 6, .int .i64 r, .int .i64 o, .int .i64 k, v6, v7, v8]] w fun e w' => e = .returned (.string (statOf ⟨#[102, 105, 110, 105, 115, 104, 101, 100]⟩ a n r o k)) ∧ Below w.heap.size w w' := by
  have sa := txt_size ha
  have sr := txt_size hr
  have so := txt_size ho
  have sk := txt_size hk
  have sn := txt_size (n := (n : Int)) ⟨by omega, hn⟩
  go_enter Tryd.func6, Tryd.ntmps6
  go_wp2_with fail
  have X0 : Below w.heap.size w ((w.alloc (.cells #[.slice pA n pc, .int .i64 a, .int .i64 6, .int .i64 r, .int .i64 o, .int .i64 k, v6, v7, v8] 28)).alloc (.cells (#[.string ⟨#[105, 100, 108, 101]⟩, .string ⟨#[99, 111, 109, 109, 97, 110, 100]⟩, .string ⟨#[112, 114, 111, 98, 101]⟩, .string ⟨#[117, 110, 100, 111]⟩, .string ⟨#[99, 108, 101, 97, 114]⟩, .string ⟨#[102, 97, 105, 108, 101, 100]⟩, .string ⟨#[102, 105, 110, 105, 115, 104, 101, 100]⟩]) 9)) := ext_alloc (ext_alloc (ext_refl w) (.cells #[.slice pA n pc, .int .i64 a, .int .i64 6, .int .i64 r, .int .i64 o, .int .i64 k, v6, v7, v8] 28)) (.cells (#[.string ⟨#[105, 100, 108, 101]⟩, .string ⟨#[99, 111, 109, 109, 97, 110, 100]⟩, .string ⟨#[112, 114, 111, 98, 101]⟩, .string ⟨#[117, 110, 100, 111]⟩, .string ⟨#[99, 108, 101, 97, 114]⟩, .string ⟨#[102, 97, 105, 108, 101, 100]⟩, .string ⟨#[102, 105, 110, 105, 115, 104, 101, 100]⟩]) 9)
  have P0 : Blk ((w.alloc (.cells #[.slice pA n pc, .int .i64 a, .int .i64 6, .int .i64 r, .int .i64 o, .int .i64 k, v6, v7, v8] 28)).alloc (.cells (#[.string ⟨#[105, 100, 108, 101]⟩, .string ⟨#[99, 111, 109, 109, 97, 110, 100]⟩, .string ⟨#[112, 114, 111, 98, 101]⟩, .string ⟨#[117, 110, 100, 111]⟩, .string ⟨#[99, 108, 101, 97, 114]⟩, .string ⟨#[102, 97, 105, 108, 101, 100]⟩, .string ⟨#[102, 105, 110, 105, 115, 104, 101, 100]⟩]) 9)) w.heap.size 28 #[.slice pA n pc, .int .i64 a, .int .i64 6, .int .i64 r, .int .i64 o, .int .i64 k, v6, v7, v8] := by (repeat (first | assumption | (with_reducible refine Blk.new' ?_; simp; done) | with_reducible refine Blk.alloc ?_ _ | with_reducible refine Blk.drew ?_ | with_reducible refine Blk.ext ?_ (by assumption)))
  generalize ((w.alloc (.cells #[.slice pA n pc, .int .i64 a, .int .i64 6, .int .i64 r, .int .i64 o, .int .i64 k, v6, v7, v8] 28)).alloc (.cells (#[.string ⟨#[105, 100, 108, 101]⟩, .string ⟨#[99, 111, 109, 109, 97, 110, 100]⟩, .string ⟨#[112, 114, 111, 98, 101]⟩, .string ⟨#[117, 110, 100, 111]⟩, .string ⟨#[99, 108, 101, 97, 114]⟩, .string ⟨#[102, 97, 105, 108, 101, 100]⟩, .string ⟨#[102, 105, 110, 105, 115, 104, 101, 100]⟩]) 9)) = W0 at X0 P0 ⊢
  have X0 := hid X0
  have Fa : ∀ x : World, Below W0.heap.size W0 x → Calls Tryd.prog 13 #[.int .i64 a] x fun e w' => e = .returned (.string (txt a)) ∧ Below x.heap.size x w' := fun x hx => (digitsC a ha x).mono fun e w' ⟨h1, h2⟩ => ⟨h1, h2 ▸ ext_refl _⟩
  have Fn : ∀ x : World, Below W0.heap.size W0 x → Calls Tryd.prog 13 #[.int .i64 n] x fun e w' => e = .returned (.string (txt n)) ∧ Below x.heap.size x w' := fun x hx => (digitsC n ⟨by omega, hn⟩ x).mono fun e w' ⟨h1, h2⟩ => ⟨h1, h2 ▸ ext_refl _⟩
  have Fr : ∀ x : World, Below W0.heap.size W0 x → Calls Tryd.prog 13 #[.int .i64 r] x fun e w' => e = .returned (.string (txt r)) ∧ Below x.heap.size x w' := fun x hx => (digitsC r hr x).mono fun e w' ⟨h1, h2⟩ => ⟨h1, h2 ▸ ext_refl _⟩
  have Fo : ∀ x : World, Below W0.heap.size W0 x → Calls Tryd.prog 13 #[.int .i64 o] x fun e w' => e = .returned (.string (txt o)) ∧ Below x.heap.size x w' := fun x hx => (digitsC o ho x).mono fun e w' ⟨h1, h2⟩ => ⟨h1, h2 ▸ ext_refl _⟩
  have Fk : ∀ x : World, Below W0.heap.size W0 x → Calls Tryd.prog 13 #[.int .i64 k] x fun e w' => e = .returned (.string (txt k)) ∧ Below x.heap.size x w' := fun x hx => (digitsC k hk x).mono fun e w' ⟨h1, h2⟩ => ⟨h1, h2 ▸ ext_refl _⟩
  have cP := gr_blk P0
  refine wp_region_gr (by kernel_rfl) (by kernel_rfl) ?_
  repeat (go_big_quiet_step (first | (go_at_call 13; with_reducible exact gr_of (Fa _ (Gr.ok _))) | (go_at_call 13; with_reducible exact gr_of (Fn _ (Gr.ok _))) | (go_at_call 13; with_reducible exact gr_of (Fr _ (Gr.ok _))) | (go_at_call 13; with_reducible exact gr_of (Fo _ (Gr.ok _))) | (go_at_call 13; with_reducible exact gr_of (Fk _ (Gr.ok _)))))
  refine wpQuiet_nil ?_
  intro w2 hw'
  have hb2 := gr_out hw'
  clear hw'
  have X2 := ext_step X0.out hb2
  go_wp2_with fail
  go_ret
  exact ⟨rfl, X2⟩
theorem stRneg (pA : Option Addr) (n pc : Nat) (a r o k : Int) (v6 v7 v8 : Value) (p : Int) (hp : p < 0) (w : World) (hn : (n : Int) ≤ 9223372036854775807) (ha : -9223372036854775808 ≤ a ∧ a ≤ 9223372036854775807) (hr : -9223372036854775808 ≤ r ∧ r ≤ 9223372036854775807) (ho : -9223372036854775808 ≤ o ∧ o ≤ 9223372036854775807) (hk : -9223372036854775808 ≤ k ∧ k ≤ 9223372036854775807) :
    Calls Tryd.prog 6 #[.agg #[.slice pA n pc, .int .i64 a, .int .i64 p, .int .i64 r, .int .i64 o, .int .i64 k, v6, v7, v8]] w fun e w' => e = .returned (.string (statOf ⟨#[117, 110, 107, 110, 111, 119, 110]⟩ a n r o k)) ∧ Below w.heap.size w w' := by
  have sa := txt_size ha
  have sr := txt_size hr
  have so := txt_size ho
  have sk := txt_size hk
  have sn := txt_size (n := (n : Int)) ⟨by omega, hn⟩
  go_enter Tryd.func6, Tryd.ntmps6
  have hp1 : Hid True := trivial
  go_wp2_with fail
  have X0 : Below w.heap.size w (w.alloc (.cells #[.slice pA n pc, .int .i64 a, .int .i64 p, .int .i64 r, .int .i64 o, .int .i64 k, v6, v7, v8] 28)) := ext_alloc (ext_refl w) (.cells #[.slice pA n pc, .int .i64 a, .int .i64 p, .int .i64 r, .int .i64 o, .int .i64 k, v6, v7, v8] 28)
  have P0 : Blk (w.alloc (.cells #[.slice pA n pc, .int .i64 a, .int .i64 p, .int .i64 r, .int .i64 o, .int .i64 k, v6, v7, v8] 28)) w.heap.size 28 #[.slice pA n pc, .int .i64 a, .int .i64 p, .int .i64 r, .int .i64 o, .int .i64 k, v6, v7, v8] := by exact Blk.new _ _ _
  generalize (w.alloc (.cells #[.slice pA n pc, .int .i64 a, .int .i64 p, .int .i64 r, .int .i64 o, .int .i64 k, v6, v7, v8] 28)) = W0 at X0 P0 ⊢
  have X0 := hid X0
  have Fa : ∀ x : World, Below W0.heap.size W0 x → Calls Tryd.prog 13 #[.int .i64 a] x fun e w' => e = .returned (.string (txt a)) ∧ Below x.heap.size x w' := fun x hx => (digitsC a ha x).mono fun e w' ⟨h1, h2⟩ => ⟨h1, h2 ▸ ext_refl _⟩
  have Fn : ∀ x : World, Below W0.heap.size W0 x → Calls Tryd.prog 13 #[.int .i64 n] x fun e w' => e = .returned (.string (txt n)) ∧ Below x.heap.size x w' := fun x hx => (digitsC n ⟨by omega, hn⟩ x).mono fun e w' ⟨h1, h2⟩ => ⟨h1, h2 ▸ ext_refl _⟩
  have Fr : ∀ x : World, Below W0.heap.size W0 x → Calls Tryd.prog 13 #[.int .i64 r] x fun e w' => e = .returned (.string (txt r)) ∧ Below x.heap.size x w' := fun x hx => (digitsC r hr x).mono fun e w' ⟨h1, h2⟩ => ⟨h1, h2 ▸ ext_refl _⟩
  have Fo : ∀ x : World, Below W0.heap.size W0 x → Calls Tryd.prog 13 #[.int .i64 o] x fun e w' => e = .returned (.string (txt o)) ∧ Below x.heap.size x w' := fun x hx => (digitsC o ho x).mono fun e w' ⟨h1, h2⟩ => ⟨h1, h2 ▸ ext_refl _⟩
  have Fk : ∀ x : World, Below W0.heap.size W0 x → Calls Tryd.prog 13 #[.int .i64 k] x fun e w' => e = .returned (.string (txt k)) ∧ Below x.heap.size x w' := fun x hx => (digitsC k hk x).mono fun e w' ⟨h1, h2⟩ => ⟨h1, h2 ▸ ext_refl _⟩
  have cP := gr_blk P0
  refine wp_region_gr (by kernel_rfl) (by kernel_rfl) ?_
  repeat (go_big_quiet_step (first | (go_at_call 13; with_reducible exact gr_of (Fa _ (Gr.ok _))) | (go_at_call 13; with_reducible exact gr_of (Fn _ (Gr.ok _))) | (go_at_call 13; with_reducible exact gr_of (Fr _ (Gr.ok _))) | (go_at_call 13; with_reducible exact gr_of (Fo _ (Gr.ok _))) | (go_at_call 13; with_reducible exact gr_of (Fk _ (Gr.ok _)))))
  refine wpQuiet_nil ?_
  intro w2 hw'
  have hb2 := gr_out hw'
  clear hw'
  have X2 := ext_step X0.out hb2
  go_wp2_with fail
  go_ret
  exact ⟨rfl, X2⟩
theorem stRbig (pA : Option Addr) (n pc : Nat) (a r o k : Int) (v6 v7 v8 : Value) (p : Int) (hp : 7 ≤ p) (w : World) (hn : (n : Int) ≤ 9223372036854775807) (ha : -9223372036854775808 ≤ a ∧ a ≤ 9223372036854775807) (hr : -9223372036854775808 ≤ r ∧ r ≤ 9223372036854775807) (ho : -9223372036854775808 ≤ o ∧ o ≤ 9223372036854775807) (hk : -9223372036854775808 ≤ k ∧ k ≤ 9223372036854775807) :
    Calls Tryd.prog 6 #[.agg #[.slice pA n pc, .int .i64 a, .int .i64 p, .int .i64 r, .int .i64 o, .int .i64 k, v6, v7, v8]] w fun e w' => e = .returned (.string (statOf ⟨#[117, 110, 107, 110, 111, 119, 110]⟩ a n r o k)) ∧ Below w.heap.size w w' := by
  have sa := txt_size ha
  have sr := txt_size hr
  have so := txt_size ho
  have sk := txt_size hk
  have sn := txt_size (n := (n : Int)) ⟨by omega, hn⟩
  go_enter Tryd.func6, Tryd.ntmps6
  have hp1 : Hid True := trivial
  go_wp2_with fail
  have X0 : Below w.heap.size w (w.alloc (.cells #[.slice pA n pc, .int .i64 a, .int .i64 p, .int .i64 r, .int .i64 o, .int .i64 k, v6, v7, v8] 28)) := ext_alloc (ext_refl w) (.cells #[.slice pA n pc, .int .i64 a, .int .i64 p, .int .i64 r, .int .i64 o, .int .i64 k, v6, v7, v8] 28)
  have P0 : Blk (w.alloc (.cells #[.slice pA n pc, .int .i64 a, .int .i64 p, .int .i64 r, .int .i64 o, .int .i64 k, v6, v7, v8] 28)) w.heap.size 28 #[.slice pA n pc, .int .i64 a, .int .i64 p, .int .i64 r, .int .i64 o, .int .i64 k, v6, v7, v8] := by exact Blk.new _ _ _
  generalize (w.alloc (.cells #[.slice pA n pc, .int .i64 a, .int .i64 p, .int .i64 r, .int .i64 o, .int .i64 k, v6, v7, v8] 28)) = W0 at X0 P0 ⊢
  have X0 := hid X0
  have Fa : ∀ x : World, Below W0.heap.size W0 x → Calls Tryd.prog 13 #[.int .i64 a] x fun e w' => e = .returned (.string (txt a)) ∧ Below x.heap.size x w' := fun x hx => (digitsC a ha x).mono fun e w' ⟨h1, h2⟩ => ⟨h1, h2 ▸ ext_refl _⟩
  have Fn : ∀ x : World, Below W0.heap.size W0 x → Calls Tryd.prog 13 #[.int .i64 n] x fun e w' => e = .returned (.string (txt n)) ∧ Below x.heap.size x w' := fun x hx => (digitsC n ⟨by omega, hn⟩ x).mono fun e w' ⟨h1, h2⟩ => ⟨h1, h2 ▸ ext_refl _⟩
  have Fr : ∀ x : World, Below W0.heap.size W0 x → Calls Tryd.prog 13 #[.int .i64 r] x fun e w' => e = .returned (.string (txt r)) ∧ Below x.heap.size x w' := fun x hx => (digitsC r hr x).mono fun e w' ⟨h1, h2⟩ => ⟨h1, h2 ▸ ext_refl _⟩
  have Fo : ∀ x : World, Below W0.heap.size W0 x → Calls Tryd.prog 13 #[.int .i64 o] x fun e w' => e = .returned (.string (txt o)) ∧ Below x.heap.size x w' := fun x hx => (digitsC o ho x).mono fun e w' ⟨h1, h2⟩ => ⟨h1, h2 ▸ ext_refl _⟩
  have Fk : ∀ x : World, Below W0.heap.size W0 x → Calls Tryd.prog 13 #[.int .i64 k] x fun e w' => e = .returned (.string (txt k)) ∧ Below x.heap.size x w' := fun x hx => (digitsC k hk x).mono fun e w' ⟨h1, h2⟩ => ⟨h1, h2 ▸ ext_refl _⟩
  have cP := gr_blk P0
  refine wp_region_gr (by kernel_rfl) (by kernel_rfl) ?_
  repeat (go_big_quiet_step (first | (go_at_call 13; with_reducible exact gr_of (Fa _ (Gr.ok _))) | (go_at_call 13; with_reducible exact gr_of (Fn _ (Gr.ok _))) | (go_at_call 13; with_reducible exact gr_of (Fr _ (Gr.ok _))) | (go_at_call 13; with_reducible exact gr_of (Fo _ (Gr.ok _))) | (go_at_call 13; with_reducible exact gr_of (Fk _ (Gr.ok _)))))
  refine wpQuiet_nil ?_
  intro w2 hw'
  have hb2 := gr_out hw'
  clear hw'
  have X2 := ext_step X0.out hb2
  go_wp2_with fail
  go_ret
  exact ⟨rfl, X2⟩
end Go.Proofs.YtfpcpjnmffbhgaaDoor
