/-
  Contracts of the comparison of mixes (layer 36), program and reference.
-/
import Derived.Test.YtheklfcealopdaaSmall
import Derived.Test.YtheklfcealopdaaMixPlain
namespace Go.Proofs.Ytheklfcealopdaa
open Go.RowKit
set_option linter.unusedSimpArgs false
set_option linter.unusedVariables false
set_option maxHeartbeats 2000000
set_option maxRecDepth 100000
def cmpMix (a b : MixD) : Int := if cmpInts a.base b.base ≠ 0 then cmpInts a.base b.base else if cmpInts a.next b.next ≠ 0 then cmpInts a.next b.next else cmpInts a.held b.held
theorem cmp1_lt {a b : Int} (h : a < b) : cmp1 a b = -1 := by unfold cmp1; rw [if_pos h]
theorem cmp1_gt {a b : Int} (h : b < a) : cmp1 a b = 1 := by unfold cmp1; rw [if_neg (by omega), if_pos h]
theorem cmp1_eq {a b : Int} (h : ¬ a < b) (h' : ¬ b < a) : cmp1 a b = 0 := by unfold cmp1; rw [if_neg h, if_neg h']
theorem take_step {α : Type} {l : List α} {k : Nat} (h : k < l.length) : l.take (k + 1) = l.take k ++ [l[k]] := by
  rw [List.take_add_one, List.getElem?_eq_getElem h]; rfl
theorem cells_new (w : World) (t : TypeId) (xs : List Value) : Cells (w.alloc (.cells xs.toArray t)) (some ⟨w.heap.size, 0, none⟩) xs := by
  intro j hj
  refine ⟨_, _, rfl, by simp, ?_⟩
  rw [(Blk.new w t xs.toArray).cell]
  simp [List.getElem?_eq_getElem hj]
theorem ext_step' {w a b : World} (h : Below w.heap.size w a) (k : Below w.heap.size a b) : Below w.heap.size w b := h.trans k
def GrownSl (w : World) (t : TypeId) (sz n : Nat) (xs : List Value) (e : Ending) (w' : World) : Prop :=
  ∃ A c, e = .returned (.slice A n c) ∧ Own w.heap.size w' t sz A n c xs ∧ Below w.heap.size w w'
def Bytes (xs : List Int) : Prop := ∀ x ∈ xs, 0 ≤ x ∧ x < 256
theorem ints36 (A B : Option Addr) (c d : Nat) (xs ys : List Int) (w : World) (hA : Cells w A (ints xs)) (hB : Cells w B (ints ys)) (l0 : xs.length ≤ 4611686018427387904) (l1 : ys.length ≤ 4611686018427387904) :
    Calls Try.prog 47 #[.slice A xs.length c, .slice B ys.length d] w fun e w' => e = .returned (.int .i64 (cmpInts xs ys)) ∧ Below w.heap.size w w' := by
  have HA := hid hA
  have HB := hid hB
  clear hA hB
  go_enter Try.func47, Try.ntmps47
  go_wp2_with fail
  go_loopw [5] (fun iv wr => ∃ k : Nat, k ≤ xs.length ∧ iv = .int .i64 k ∧ Hid (k ≤ ys.length) ∧ Hid (cmpInts (xs.drop k) (ys.drop k) = cmpInts xs ys) ∧ Below w.heap.size w wr) (fun iv _ => xs.length - (intOf iv).toNat)
  case atStart => exact ⟨0, Nat.zero_le _, rfl, Nat.zero_le _, rfl, ext_refl _⟩
  case round =>
    obtain ⟨k, hk, rfl, hy, hS, hB⟩ := hrel
    by_cases hlt : k < xs.length
    · have dlt : decide ((k : Int) < xs.length) = true := by simp; omega
      obtain ⟨b0, o0, rfl, hb0, p0⟩ := HA.out.at_int hlt
      have k0 := gr_cell (Nat.lt_of_lt_of_le hb0 hB.size) (gr_cell0 hB hb0 p0)
      by_cases hly : k < ys.length
      · have HD := hid (cmp_step hlt hly)
        obtain ⟨b1, o1, rfl, hb1, p1⟩ := HB.out.at_int hly
        have k1 := gr_cell (Nat.lt_of_lt_of_le hb1 hB.size) (gr_cell0 hB hb1 p1)
        generalize ex : xs[k] = x at k0 p0 HD
        generalize ey : ys[k] = y at k1 p1 HD
        have p0' := gr_cell0 hB hb0 p0
        have p1' := gr_cell0 hB hb1 p1
        clear p0 p1 ex ey
        by_cases g1 : x < y
        · go_wp2_with fail
          refine wp_region_gr (by kernel_rfl) (by kernel_rfl) ?_
          repeat (go_big_quiet_step (fail))
          refine wpQuiet_nil ?_
          intro w9 hw'
          have hb9 := gr_out hw'
          clear hw'
          go_wp2_with fail
          go_ret
          exact ⟨ret_int (by rw [← hS.out, HD.out, cmp1_lt g1]; rfl), ext_step hB hb9⟩
        · go_wp2_with fail
          refine wp_region_gr (by kernel_rfl) (by kernel_rfl) ?_
          repeat (go_big_quiet_step (fail))
          refine wpQuiet_nil ?_
          intro w9 hw'
          have hb9 := gr_out hw'
          clear hw'
          have r0 := gr_cell (Nat.lt_of_lt_of_le (Nat.lt_of_lt_of_le hb0 hB.size) hb9.size) (ext_cell hb9 (Nat.lt_of_lt_of_le hb0 hB.size) p0')
          have r1 := gr_cell (Nat.lt_of_lt_of_le (Nat.lt_of_lt_of_le hb1 hB.size) hb9.size) (ext_cell hb9 (Nat.lt_of_lt_of_le hb1 hB.size) p1')
          clear k0 k1
          by_cases g2 : y < x
          · go_wp2_with fail
            refine wp_region_gr (by kernel_rfl) (by kernel_rfl) ?_
            repeat (go_big_quiet_step (fail))
            refine wpQuiet_nil ?_
            intro w8 hw'
            have hb8 := gr_out hw'
            clear hw'
            go_wp2_with fail
            go_ret
            exact ⟨ret_int (by rw [← hS.out, HD.out, cmp1_gt g2]; rfl), ext_step (ext_step hB hb9) hb8⟩
          · go_wp2_with fail
            refine wp_region_gr (by kernel_rfl) (by kernel_rfl) ?_
            repeat (go_big_quiet_step (fail))
            refine wpQuiet_nil ?_
            intro w8 hw'
            have hb8 := gr_out hw'
            clear hw'
            go_wp2_with fail
            go_roundw
            case rel => exact ⟨k + 1, by omega, by go_num, hly, by show _ = _; rw [← hS.out, HD.out, cmp1_eq (by omega) (by omega)]; rfl, ext_step (ext_step hB hb9) hb8⟩
            case measure => simp [intOf]; omega
      · have hy' := hy.out
        have z : ys.length < xs.length := by omega
        clear p0
        go_wp2_with fail
        go_ret
        exact ⟨ret_int (by rw [← hS.out, cmp_left hlt (by omega)]), hB⟩
    · have dlt : decide ((k : Int) < xs.length) = false := by simp; omega
      by_cases hly : k < ys.length
      · have z : xs.length < ys.length := by omega
        go_wp2_with fail
        go_ret
        exact ⟨ret_int (by rw [← hS.out, cmp_right (by omega) hly]), hB⟩
      · have hy' := hy.out
        have z : ys.length ≤ xs.length := by omega
        have z2 : xs.length ≤ ys.length := by omega
        go_wp2_with fail
        go_ret
        exact ⟨ret_int (by rw [← hS.out, cmp_nil (by omega) (by omega)]), hB⟩
theorem numbers36 (A : Option Addr) (c : Nat) (xs : List Int) (w : World) (hA : Cells w A (sets xs)) (hr : Bytes xs) (l0 : xs.length ≤ 1099511627776) :
    Calls Try.prog 48 #[.slice A xs.length c] w (GrownSl w 3 1 xs.length (ints xs)) := by
  obtain ⟨i, hi, hz0, hz1, hz2⟩ := info_parts infoInt
  have HA := hid hA
  have HR := hid hr
  clear hA hr
  go_enter Try.func48, Try.ntmps48
  go_wp2_with fail
  go_loopw [3, 4] (fun sv iv wr => ∃ (k : Nat) (A' : Option Addr) (c' : Nat), k ≤ xs.length ∧ iv = .int .i64 k ∧ sv = .slice A' k c' ∧ Hid (Own w.heap.size wr 3 1 A' k c' (ints (xs.take k))) ∧ Below w.heap.size w wr) (fun _ iv _ => xs.length - (intOf iv).toNat)
  case atStart => exact ⟨0, none, 0, Nat.zero_le _, rfl, rfl, Own.nil _ _ _ _ _, ext_refl _⟩
  case round =>
    obtain ⟨k, A', c', hk, rfl, rfl, hO, hB⟩ := hrel
    by_cases hlt : k < xs.length
    · obtain ⟨b0, o0, rfl, hb0, p0⟩ := HA.out.at_set hlt
      have hx := HR.out xs[k] (List.getElem_mem hlt)
      have k0 := gr_cell0 hB hb0 p0
      have HT : Hid (ints (xs.take (k + 1)) = ints (xs.take k) ++ [.int .i64 xs[k]]) := by
        show _ = _; rw [take_step hlt]; unfold ints; rw [List.map_append]; rfl
      clear p0
      generalize xs[k] = x at k0 HT hx
      obtain ⟨x0, x1⟩ := hx
      go_wp2_with (at_builtin; refine wpList_app rfl (.tmp 11) (.tmp 17) 31 31 rfl A' k c' (k + 1) (.slice (some ⟨wr.heap.size, 0, none⟩) 1 1) (by rfl) (by rfl) (run_own w.heap.size (by have := hB.size; simp; omega) 31 31 _ 3 i _ Try.underlying31 hi hz0 (by rw [hz1]; rfl) A' k c' (ints (xs.take k)) (by rw [hz1]; exact hO.out.alloc _) _ 1 [.int .i64 x] (by rw [hz1]; exact src_cells Try.underlying31 (cells_new _ _ _) rfl (fun e => by cases e) (by simp [Value.oneCell'])) (by rw [hz2]; omega) (by omega)) ?_; intro A2 c2 w2 hR; have HR := hid hR; clear hR)
      go_roundw
      case rel =>
        obtain ⟨h1, h2⟩ := HR.out
        rw [hz1] at h1
        exact ⟨k + 1, A2, c2, by omega, by go_num, rfl, by rw [HT.out]; exact h1, ext_step' (ext_alloc hB _) h2⟩
      case measure => simp [intOf]; omega
    · have hkk : k = xs.length := by omega
      have HK := hid hkk
      clear hkk
      go_wp2_with fail
      go_ret
      have h1 := hO.out
      rw [HK.out, List.take_length] at h1
      exact ⟨A', c', by rw [HK.out]; rfl, h1, hB⟩
/-- The value of a mix, and that it reads so. -/
theorem compare36 (av bv : Value) (a b : MixD) (w : World) (ha : MixAt w av a) (hb : MixAt w bv b) (ra : Bytes a.held) (rb : Bytes b.held) (la : a.held.length ≤ 1099511627776) (lb : b.held.length ≤ 1099511627776) :
    Calls Try.prog 35 #[av, bv] w fun e w' => e = .returned (.int .i64 (cmpMix a b)) ∧ Below w.heap.size w w' := by
  obtain ⟨bA, bc, nA, nc, hA, hc, rfl, a1, a2, a3, m0, m1, m2⟩ := ha
  obtain ⟨bB, bd, nB, nd, hB, hd, rfl, b1, b2, b3, n0, n1, n2⟩ := hb
  have A1 := hid a1
  have A2 := hid a2
  have A3 := hid a3
  have B1 := hid b1
  have B2 := hid b2
  have B3 := hid b3
  clear a1 a2 a3 b1 b2 b3
  go_enter Try.func35, Try.ntmps35
  go_wp2_with fail
  have hx : Below w.heap.size w ((w.alloc (.cells #[.slice bA a.base.length bc, .slice nA a.next.length nc, .slice hA a.held.length hc] 34)).alloc (.cells #[.slice bB b.base.length bd, .slice nB b.next.length nd, .slice hB b.held.length hd] 34)) := ext_alloc (ext_alloc (ext_refl _) _) _
  refine (ints36 _ _ _ _ _ _ _ (A1.out.ext hx) (B1.out.ext hx) m0 n0).mono ?_
  rintro e w1 ⟨rfl, hb1⟩
  have P1 : Blk w1 w.heap.size 34 #[.slice bA a.base.length bc, .slice nA a.next.length nc, .slice hA a.held.length hc] := by (repeat (first | assumption | (with_reducible refine Blk.new' ?_; simp; done) | with_reducible refine Blk.alloc ?_ _ | with_reducible refine Blk.drew ?_ | with_reducible refine Blk.ext ?_ (by assumption)))
  have Q1 : Blk w1 (w.heap.size + 1) 34 #[.slice bB b.base.length bd, .slice nB b.next.length nd, .slice hB b.held.length hd] := by (repeat (first | assumption | (with_reducible refine Blk.new' ?_; simp; done) | with_reducible refine Blk.alloc ?_ _ | with_reducible refine Blk.drew ?_ | with_reducible refine Blk.ext ?_ (by assumption)))
  have X1 := hid (ext_step hx hb1)
  clear hx hb1
  have cP := P1.cell
  have cQ := Q1.cell
  by_cases g1 : cmpInts a.base b.base = 0
  rotate_left
  · have g1' : (cmpInts a.base b.base != 0) = true := by simpa using g1
    have HM : Hid (cmpMix a b = cmpInts a.base b.base) := by show _ = _; unfold cmpMix; rw [if_pos g1]
    clear g1
    go_wp2_with fail
    go_ret
    exact ⟨ret_int HM.out.symm, X1.out⟩
  have g1' : (cmpInts a.base b.base != 0) = false := by simpa using g1
  have HM : Hid (cmpMix a b = if cmpInts a.next b.next ≠ 0 then cmpInts a.next b.next else cmpInts a.held b.held) := by show _ = _; unfold cmpMix; rw [if_neg (by simp [g1])]
  clear g1
  go_wp2_with fail
  refine (ints36 _ _ _ _ _ _ _ (A2.out.ext X1.out) (B2.out.ext X1.out) m1 n1).mono ?_
  rintro e w2 ⟨rfl, hb2⟩
  have P2 := P1.ext hb2
  have Q2 := Q1.ext hb2
  have X2 := hid (ext_step X1.out hb2)
  clear cP cQ hb2
  have cP := P2.cell
  have cQ := Q2.cell
  by_cases g2 : cmpInts a.next b.next = 0
  rotate_left
  · have g2' : (cmpInts a.next b.next != 0) = true := by simpa using g2
    have G2 := hid g2
    clear g2
    go_wp2_with fail
    go_ret
    exact ⟨ret_int (by rw [HM.out, if_pos G2.out]), X2.out⟩
  have g2' : (cmpInts a.next b.next != 0) = false := by simpa using g2
  have G2 := hid g2
  clear g2
  go_wp2_with fail
  go_region_held3 (fun w' => w'.cell? ⟨w.heap.size, 2, none⟩ = some (.slice hA a.held.length hc) ∧ w'.cell? ⟨w.heap.size + 1, 2, none⟩ = some (.slice hB b.held.length hd)) (first | exact ⟨cP 2, cQ 2⟩ | exact ⟨(P2.drew.ext hb3).cell 2, (Q2.drew.ext hb3).cell 2⟩ | exact ⟨((P2.drew.ext hb3).ext hb4).cell 2, ((Q2.drew.ext hb3).ext hb4).cell 2⟩ | exact ⟨(((P2.drew.ext hb3).ext hb4).ext hb5).cell 2, (((Q2.drew.ext hb3).ext hb4).ext hb5).cell 2⟩)
    (first
    | (go_at_call_of 48 (hA); refine (numbers36 hA hc a.held _ (A3.out.ext (ext_drew X2.out)) ra la).mono ?_; rintro e w3 ⟨xA, xc, rfl, hO3, hb3⟩; have O3 := hid hO3; clear hO3)
    | (go_at_call_of 48 (hB); refine (numbers36 hB hd b.held _ (B3.out.ext (ext_step (ext_drew X2.out) hb3)) rb lb).mono ?_; rintro e w4 ⟨yA, yc, rfl, hO4, hb4⟩; have O4 := hid hO4; clear hO4)
    | (go_at_call 47; refine (ints36 xA yA xc yc a.held b.held _ (O3.out.cells.ext hb4) O4.out.cells m2 n2).mono ?_; rintro e w5 ⟨rfl, hb5⟩))
  go_wp2_with fail
  go_ret
  exact ⟨ret_int (by rw [HM.out, if_neg (by simp [G2.out])]), ext_step (ext_step (ext_step (ext_drew X2.out) hb3) hb4) hb5⟩
theorem equal36 (av bv : Value) (a b : MixD) (w : World) (ha : MixAt w av a) (hb : MixAt w bv b) (ra : Bytes a.held) (rb : Bytes b.held) (la : a.held.length ≤ 1099511627776) (lb : b.held.length ≤ 1099511627776) :
    Calls Try.prog 24 #[av, bv] w fun e w' => e = .returned (.bool (cmpMix a b == 0)) ∧ Below w.heap.size w w' := by
  have HA := hid ha
  have HB := hid hb
  obtain ⟨bA, bc, nA, nc, hA, hc, rfl, a1, a2, a3, m0, m1, m2⟩ := ha
  obtain ⟨bB, bd, nB, nd, hB, hd, rfl, b1, b2, b3, n0, n1, n2⟩ := hb
  clear a1 a2 a3 b1 b2 b3
  go_enter Try.func24, Try.ntmps24
  go_wp2_with fail
  refine (compare36 _ _ a b _ (HA.out.ext (ext_alloc (ext_alloc (ext_refl _) _) _)) (HB.out.ext (ext_alloc (ext_alloc (ext_refl _) _) _)) ra rb la lb).mono ?_
  rintro e w1 ⟨rfl, hb1⟩
  go_wp2_with fail
  go_ret
  exact ⟨rfl, ext_step (ext_alloc (ext_alloc (ext_refl _) _) _) hb1⟩
end Go.Proofs.Ytheklfcealopdaa
