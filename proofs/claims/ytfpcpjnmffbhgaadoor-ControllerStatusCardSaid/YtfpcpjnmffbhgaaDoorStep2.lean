/-
  Contracts of step.cloned and step.start.
-/
import Derived.Test.YtfpcpjnmffbhgaaDoorStep1
namespace Go.Proofs.YtfpcpjnmffbhgaaDoor
open Go.RowKit
set_option linter.unusedSimpArgs false
set_option linter.unusedVariables false
set_option maxHeartbeats 2000000
set_option maxRecDepth 100000
theorem blk3 {w : World} {g : Nat} {t : TypeId} {a b c x y z : Value} (h : Blk w g t #[a, b, c]) : Blk (((w.setCell ⟨g, 0, none⟩ x).setCell ⟨g, 1, none⟩ y).setCell ⟨g, 2, none⟩ z) g t #[x, y, z] := by
  simpa using ((h.put 0 x).put 1 y).put 2 z
theorem below3 {B : Nat} {a w : World} {g : Nat} {x y z : Value} (h : Below B a w) (hg : B ≤ g) : Below B a (((w.setCell ⟨g, 0, none⟩ x).setCell ⟨g, 1, none⟩ y).setCell ⟨g, 2, none⟩ z) := ((h.setCell hg x).setCell hg y).setCell hg z
theorem Own.far3 {lo g : Nat} {w : World} {t : TypeId} {sz : Nat} {A : Option Addr} {n c : Nat} {xs : List Value} {x y z : Value} (h : Own lo w t sz A n c xs) (hp : g < lo) : Own lo (((w.setCell ⟨g, 0, none⟩ x).setCell ⟨g, 1, none⟩ y).setCell ⟨g, 2, none⟩ z) t sz A n c xs := ((h.far hp x).far hp y).far hp z
theorem cloned_any (mv : Value) (m : MixD) (w : World) (hm : MixAt w mv m) (l0 : m.base.length ≤ 1099511627776) (l1 : m.next.length ≤ 1099511627776) (l2 : m.held.length ≤ 1099511627776) :
    Calls Tryd.prog 89 #[mv] w (NewMix w m) := by
  obtain ⟨bA, bc, xA, xc, hA, hc, rfl, hb, hx, hh, m0, m1, m2⟩ := hm
  have HB := hid hb
  have HX := hid hx
  have HH := hid hh
  clear hb hx hh
  go_enter Tryd.func89, Tryd.ntmps89
  go_wp2_with fail
  have P0 : Blk ((w.alloc (.cells #[.slice bA m.base.length bc, .slice xA m.next.length xc, .slice hA m.held.length hc] 26)).alloc (.cells #[.slice none 0 0, .slice none 0 0, .slice none 0 0] 26)) w.heap.size 26 #[.slice bA m.base.length bc, .slice xA m.next.length xc, .slice hA m.held.length hc] := by (repeat (first | assumption | (with_reducible refine Blk.new' ?_; simp; done) | with_reducible refine Blk.alloc ?_ _ | with_reducible refine Blk.drew ?_ | with_reducible refine Blk.ext ?_ (by assumption)))
  have R0 : Blk ((w.alloc (.cells #[.slice bA m.base.length bc, .slice xA m.next.length xc, .slice hA m.held.length hc] 26)).alloc (.cells #[.slice none 0 0, .slice none 0 0, .slice none 0 0] 26)) (w.heap.size + 1) 26 #[.slice none 0 0, .slice none 0 0, .slice none 0 0] := by (repeat (first | assumption | (with_reducible refine Blk.new' ?_; simp; done) | with_reducible refine Blk.alloc ?_ _ | with_reducible refine Blk.drew ?_ | with_reducible refine Blk.ext ?_ (by assumption)))
  have X0 := hid (ext_alloc (ext_alloc (ext_refl w) (.cells #[.slice bA m.base.length bc, .slice xA m.next.length xc, .slice hA m.held.length hc] 26)) (.cells #[.slice none 0 0, .slice none 0 0, .slice none 0 0] 26))
  generalize ((w.alloc (.cells #[.slice bA m.base.length bc, .slice xA m.next.length xc, .slice hA m.held.length hc] 26)).alloc (.cells #[.slice none 0 0, .slice none 0 0, .slice none 0 0] 26)) = w0 at P0 R0 X0 ⊢
  have z0 := R0.lt
  go_region_held3 (fun w' => ∀ i, w'.cell? ⟨w.heap.size, i, none⟩ = (#[.slice bA m.base.length bc, .slice xA m.next.length xc, .slice hA m.held.length hc] : Array Value)[i]?) (first | exact P0.cell | exact P1.cell | exact P2.cell | exact P3.cell | exact (((P3.far (by omega) _).far (by omega) _).far (by omega) _).cell)
    (first
    | (go_at_call_of 28 (bA); refine (cloneInt bA m.base.length bc (ints m.base) _ (HB.out.ext (ext_drew X0.out)) (by simp) (ints_one _) (by omega)).mono ?_; rintro e w1 ⟨bA', bc', rfl, hO1, hZ1, hb1⟩; have O1 := hid hO1; clear hO1 hZ1; have P1 := P0.drew.ext hb1; have R1 := R0.drew.ext hb1; have X1 := hid (ext_step (ext_drew X0.out) hb1); have z1 := hb1.size; (try simp at z1))
    | (go_at_call_of 28 (xA); refine (cloneInt xA m.next.length xc (ints m.next) _ (HX.out.ext X1.out) (by simp) (ints_one _) (by omega)).mono ?_; rintro e w2 ⟨xA', xc', rfl, hO2, hZ2, hb2⟩; have O2 := hid hO2; clear hO2 hZ2; have P2 := P1.ext hb2; have R2 := R1.ext hb2; have X2 := hid (ext_step X1.out hb2); have z2 := hb2.size)
    | (go_at_call 32; refine (cloneSet hA m.held.length hc (sets m.held) _ (HH.out.ext X2.out) (by simp) (sets_one _) (by omega)).mono ?_; rintro e w3 ⟨hA', hc', rfl, hO3, hZ3, hb3⟩; have O3 := hid hO3; clear hO3 hZ3; have P3 := P2.ext hb3; have R3 := R2.ext hb3; have X3 := hid (ext_step X2.out hb3); have z3 := hb3.size; have cR := R3.cell; have fR := R3.frozen))
  go_wp2_with fail
  have cR' := (blk3 (x := .slice bA' m.base.length bc') (y := .slice xA' m.next.length xc') (z := .slice hA' m.held.length hc') R3).cell
  refine bodyPost_ret (by simp [results, Tryd.results89, go_sem, cR']; rfl) rfl ?_
  have hlo : w.heap.size + 1 < w0.heap.size := z0
  have o1 : Own w0.heap.size w3 3 1 bA' m.base.length bc' (ints m.base) := (O1.out.ext hb2).ext hb3
  refine ⟨w1.heap.size, w2.heap.size, bA', bc', xA', xc', hA', hc', rfl, ⟨(o1.far3 hlo).mono (by omega), (O2.out.ext hb3).far3 (by omega), O3.out.far3 (by omega), by omega, z2, by simp [size_set]; omega, fun h0 => O1.out.lt h0, fun h0 => O2.out.lt h0⟩, below3 X3.out (by omega)⟩
end Go.Proofs.YtfpcpjnmffbhgaaDoor
