/-
  Contracts of mix.stored, mix.running, sheaveref36.Running.
-/
import Derived.Test.YtfpcpjnmffbhgaaDoorMixPlain
namespace Go.Proofs.YtfpcpjnmffbhgaaDoor
open Go.RowKit
set_option linter.unusedSimpArgs false
set_option linter.unusedVariables false
set_option maxHeartbeats 1500000
set_option maxRecDepth 100000
theorem mstored_any (k f o : Int) (aw : Bool) (okA rwA : Option Addr) (okn okc rwn rwc : Nat) (w : World) : Calls Tryd.prog 30 #[.agg #[.int .i64 k, .int .i64 f, .int .i64 o, .bool aw, .slice okA okn okc, .slice rwA rwn rwc]] w fun e w' => e = .returned (.bool (storedB k)) ∧ Below w.heap.size w w' := by
  go_enter Tryd.func30, Tryd.ntmps30
  go_wp2
  all_goals go_ret
  all_goals refine ⟨ret_bool ?_, ext_alloc (ext_refl _) _⟩
  all_goals (rw [Bool.eq_iff_iff]; simp_all [storedB]; try omega)
theorem mrunning_any (bA nA hA : Option Addr) (bc nc hn hc : Nat) (base next : List Int) (s b n : Int) (w : World) (hb : Cells w bA (ints base)) (hx : Cells w nA (ints next)) (h0 : 0 ≤ s) (h1 : s < base.length) (h2 : s < next.length)
    (e1 : base[s.toNat]'(by omega) = b) (e2 : next[s.toNat]'(by omega) = n) (hb0 : 0 ≤ b) (hb1 : b < 8) (hn1 : n < 8) :
    Calls Tryd.prog 85 #[.agg #[.slice bA base.length bc, .slice nA next.length nc, .slice hA hn hc], .int .i64 s] w fun e w' => e = .returned (.int .u8 (runSet b n)) ∧ Below w.heap.size w w' := by
  obtain ⟨bb, bo, rfl, q1, c1⟩ := hb.at_int (k := s.toNat) (by omega)
  obtain ⟨nb, no, rfl, q2, c2⟩ := hx.at_int (k := s.toNat) (by omega)
  rw [e1] at c1
  rw [e2] at c2
  clear hb hx e1 e2
  by_cases g : 0 ≤ n
  · have HR : Hid (runSet b n = bits BinOp.or IntKind.u8 (2 ^ b.toNat % 256) (2 ^ n.toNat % 256)) := by show _ = _; unfold runSet; rw [if_pos g]
    go_enter Tryd.func85, Tryd.ntmps85
    go_wp2_with fail
    go_ret
    exact ⟨ret_int HR.out.symm, ext_alloc (ext_refl _) _⟩
  · have HR : Hid (runSet b n = 2 ^ b.toNat % 256) := by show _ = _; unfold runSet; rw [if_neg g]
    go_enter Tryd.func85, Tryd.ntmps85
    go_wp2_with fail
    go_ret
    exact ⟨ret_int HR.out.symm, ext_alloc (ext_refl _) _⟩
end Go.Proofs.YtfpcpjnmffbhgaaDoor
