/-
  Contracts of small functions of layer 37 (program): stored, running, valid, exists, cloned.
-/
import Derived.Test.YtfpcpjnmffbhgaaDoorCmp
import Derived.Test.YtfpcpjnmffbhgaaDoorMixValid
namespace Go.Proofs.YtfpcpjnmffbhgaaDoor
open Go.RowKit
set_option linter.unusedSimpArgs false
set_option linter.unusedVariables false
set_option maxHeartbeats 2000000
set_option maxRecDepth 100000
theorem sstored_any (k f o : Int) (aw : Bool) (okA rwA : Option Addr) (okn okc rwn rwc : Nat) (w : World) : Calls Tryd.prog 97 #[.agg #[.int .i64 k, .int .i64 f, .int .i64 o, .bool aw, .slice okA okn okc, .slice rwA rwn rwc]] w fun e w' => e = .returned (.bool (storedB k)) ∧ Below w.heap.size w w' := by
  go_enter Tryd.func97, Tryd.ntmps97
  go_wp2
  all_goals go_ret
  all_goals refine ⟨ret_bool ?_, ext_alloc (ext_refl _) _⟩
  all_goals (rw [Bool.eq_iff_iff]; simp_all [storedB]; try omega)
theorem srunning_any (bA nA hA : Option Addr) (bc nc hn hc : Nat) (base next : List Int) (s b n : Int) (w : World) (hb : Cells w bA (ints base)) (hx : Cells w nA (ints next)) (h0 : 0 ≤ s) (h1 : s < base.length) (h2 : s < next.length)
    (e1 : base[s.toNat]'(by omega) = b) (e2 : next[s.toNat]'(by omega) = n) (hb0 : 0 ≤ b) (hb1 : b < 8) (hn1 : n < 8) :
    Calls Tryd.prog 98 #[.agg #[.slice bA base.length bc, .slice nA next.length nc, .slice hA hn hc], .int .i64 s] w fun e w' => e = .returned (.int .u8 (runSet b n)) ∧ Below w.heap.size w w' := by
  obtain ⟨bb, bo, rfl, q1, c1⟩ := hb.at_int (k := s.toNat) (by omega)
  obtain ⟨nb, no, rfl, q2, c2⟩ := hx.at_int (k := s.toNat) (by omega)
  rw [e1] at c1
  rw [e2] at c2
  clear hb hx e1 e2
  by_cases g : 0 ≤ n
  · have HR : Hid (runSet b n = bits BinOp.or IntKind.u8 (2 ^ b.toNat % 256) (2 ^ n.toNat % 256)) := by show _ = _; unfold runSet; rw [if_pos g]
    go_enter Tryd.func98, Tryd.ntmps98
    go_wp2_with fail
    go_ret
    exact ⟨ret_int HR.out.symm, ext_alloc (ext_refl _) _⟩
  · have HR : Hid (runSet b n = 2 ^ b.toNat % 256) := by show _ = _; unfold runSet; rw [if_neg g]
    go_enter Tryd.func98, Tryd.ntmps98
    go_wp2_with fail
    go_ret
    exact ⟨ret_int HR.out.symm, ext_alloc (ext_refl _) _⟩
def stepOK (s : StepD) : Bool := decide (0 ≤ s.idx ∧ 0 ≤ s.ver ∧ 1 ≤ s.kind ∧ s.kind ≤ 4 ∧ (s.kind = 1 ∨ s.ver = 0))
theorem svalid_any (k i v : Int) (w : World) : Calls Tryd.prog 86 #[.agg #[.int .i64 k, .int .i64 i, .int .i64 v]] w fun e w' => e = .returned (.bool (stepOK ⟨k, i, v⟩)) ∧ Below w.heap.size w w' := by
  go_enter Tryd.func86, Tryd.ntmps86
  go_wp2
  all_goals go_ret
  all_goals refine ⟨ret_bool ?_, ext_alloc (ext_refl _) _⟩
  all_goals (rw [Bool.eq_iff_iff]; simp_all [stepOK]; try omega)
def stepThere (p : Prob) (s : StepD) : Bool :=
  if s.kind = 3 then decide (s.idx < p.tabs.length) else decide (s.idx < p.vs.length) && (decide (¬ s.kind = 1) || decide (s.ver < p.vs.getD s.idx.toNat 0))
theorem exists_any (pv : Value) (p : Prob) (k i v : Int) (w : World) (hp : ProbAt w pv p) (h0 : 0 ≤ i) :
    Calls Tryd.prog 87 #[pv, .agg #[.int .i64 k, .int .i64 i, .int .i64 v]] w fun e w' => e = .returned (.bool (stepThere p ⟨k, i, v⟩)) ∧ Below w.heap.size w w' := by
  obtain ⟨vA, vc, nA, nc, gA, gc, tA, tc, rfl, hv, hn, hg, ht, l1, l2, l3, l4⟩ := hp
  have HV := hid hv
  clear hv hn hg ht
  by_cases c1 : k = 3
  · subst c1
    go_enter Tryd.func87, Tryd.ntmps87
    go_wp2
    go_ret
    exact ⟨ret_bool (by simp [stepThere]), ext_alloc (ext_alloc (ext_refl _) _) _⟩
  have c1' : (k == 3) = false := by simpa using c1
  have HT : Hid (stepThere p ⟨k, i, v⟩ = (decide (i < p.vs.length) && (decide (¬ k = 1) || decide (v < p.vs.getD i.toNat 0)))) := by show _ = _; unfold stepThere; rw [if_neg c1]
  clear c1
  go_enter Tryd.func87, Tryd.ntmps87
  go_wp2_with fail
  have P0 : Blk ((w.alloc (.cells #[.slice vA p.vs.length vc, .slice nA p.now.length nc, .slice gA p.tgt.length gc, .slice tA p.tabs.length tc] 34)).alloc (.cells #[.int .i64 k, .int .i64 i, .int .i64 v] 58)) w.heap.size 34 #[.slice vA p.vs.length vc, .slice nA p.now.length nc, .slice gA p.tgt.length gc, .slice tA p.tabs.length tc] := by (repeat (first | assumption | (with_reducible refine Blk.new' ?_; simp; done) | with_reducible refine Blk.alloc ?_ _ | with_reducible refine Blk.drew ?_ | with_reducible refine Blk.ext ?_ (by assumption)))
  have S0 : Blk ((w.alloc (.cells #[.slice vA p.vs.length vc, .slice nA p.now.length nc, .slice gA p.tgt.length gc, .slice tA p.tabs.length tc] 34)).alloc (.cells #[.int .i64 k, .int .i64 i, .int .i64 v] 58)) (w.heap.size + 1) 58 #[.int .i64 k, .int .i64 i, .int .i64 v] := by (repeat (first | assumption | (with_reducible refine Blk.new' ?_; simp; done) | with_reducible refine Blk.alloc ?_ _ | with_reducible refine Blk.drew ?_ | with_reducible refine Blk.ext ?_ (by assumption)))
  have X0 := hid (ext_alloc (ext_alloc (ext_refl w) (.cells #[.slice vA p.vs.length vc, .slice nA p.now.length nc, .slice gA p.tgt.length gc, .slice tA p.tabs.length tc] 34)) (.cells #[.int .i64 k, .int .i64 i, .int .i64 v] 58))
  generalize ((w.alloc (.cells #[.slice vA p.vs.length vc, .slice nA p.now.length nc, .slice gA p.tgt.length gc, .slice tA p.tabs.length tc] 34)).alloc (.cells #[.int .i64 k, .int .i64 i, .int .i64 v] 58)) = w0 at P0 S0 X0 ⊢
  have k0 := gr_blk P0
  have k1 := gr_blk S0
  by_cases c2 : i < p.vs.length
  rotate_left
  · have c2' : decide (i < (p.vs.length : Int)) = false := by simpa using c2
    refine wp_region_gr (by kernel_rfl) (by kernel_rfl) ?_
    repeat (go_big_quiet_step (fail))
    refine wpQuiet_nil ?_
    intro w9 hw'
    have hb9 := gr_out hw'
    clear hw'
    go_wp2_with fail
    go_ret
    exact ⟨ret_bool (by rw [HT.out, c2']; rfl), ext_step X0.out hb9⟩
  have c2' : decide (i < (p.vs.length : Int)) = true := by simpa using c2
  by_cases c3 : k = 1
  rotate_left
  · have c3' : (k != 1) = true := by simpa using c3
    have C3 := hid c3
    clear c3
    refine wp_region_gr (by kernel_rfl) (by kernel_rfl) ?_
    repeat (go_big_quiet_step (fail))
    refine wpQuiet_nil ?_
    intro w9 hw'
    have hb9 := gr_out hw'
    clear hw'
    go_wp2_with fail
    go_ret
    exact ⟨ret_bool (by rw [HT.out, c2']; simp [C3.out]), ext_step X0.out hb9⟩
  subst c3
  obtain ⟨b0, o0, rfl, hb0, p0⟩ := HV.out.at_int (k := i.toNat) (by omega)
  have k2 := gr_cell (Nat.lt_of_lt_of_le hb0 X0.out.size) (gr_cell0 X0.out hb0 p0)
  have e3 : p.vs.getD i.toNat 0 = p.vs[i.toNat]'(by omega) := by simp [List.getD_eq_getElem?_getD, List.getElem?_eq_getElem (show i.toNat < p.vs.length by omega)]
  have E3 := hid e3
  clear e3 p0
  generalize p.vs[i.toNat]'(by omega) = n at k2 E3
  refine wp_region_gr (by kernel_rfl) (by kernel_rfl) ?_
  repeat (go_big_quiet_step (fail))
  refine wpQuiet_nil ?_
  intro w9 hw'
  have hb9 := gr_out hw'
  clear hw'
  go_wp2_with fail
  go_ret
  exact ⟨ret_bool (by rw [HT.out, c2', E3.out]; simp), ext_step X0.out hb9⟩
/-- A mix of its own: three slices in blocks of their own, one behind the other. -/
def OwnMix (lo s1 s2 : Nat) (w : World) (bA : Option Addr) (bc : Nat) (nA : Option Addr) (nc : Nat) (hA : Option Addr) (hc : Nat) (m : MixD) : Prop :=
  Own lo w 3 1 bA m.base.length bc (ints m.base) ∧ Own s1 w 3 1 nA m.next.length nc (ints m.next) ∧ Own s2 w 85 1 hA m.held.length hc (sets m.held) ∧ lo ≤ s1 ∧ s1 ≤ s2 ∧ s2 ≤ w.heap.size ∧
    (0 < m.base.length → ∀ a, bA = some a → a.block < s1) ∧ (0 < m.next.length → ∀ a, nA = some a → a.block < s2)
theorem OwnMix.at_ {lo s1 s2 : Nat} {w : World} {bA : Option Addr} {bc : Nat} {nA : Option Addr} {nc : Nat} {hA : Option Addr} {hc : Nat} {m : MixD} (h : OwnMix lo s1 s2 w bA bc nA nc hA hc m) (l0 : m.base.length ≤ 4611686018427387904) (l1 : m.next.length ≤ 4611686018427387904) (l2 : m.held.length ≤ 4611686018427387904) :
    MixAt w (.agg #[.slice bA m.base.length bc, .slice nA m.next.length nc, .slice hA m.held.length hc]) m :=
  ⟨bA, bc, nA, nc, hA, hc, rfl, h.1.cells, h.2.1.cells, h.2.2.1.cells, l0, l1, l2⟩
theorem Own.lt {lo : Nat} {w : World} {t : TypeId} {sz : Nat} {A : Option Addr} {n c : Nat} {xs : List Value} (h : Own lo w t sz A n c xs) (hn : 0 < n) : ∀ a, A = some a → a.block < w.heap.size := by
  intro a e
  obtain ⟨g, sp, rfl, _, _, h4⟩ := h.blk hn
  cases e
  exact h4.lt
def NewMix (w : World) (m : MixD) (e : Ending) (w' : World) : Prop :=
  ∃ s1 s2 bA bc nA nc hA hc, e = .returned (.agg #[.slice bA m.base.length bc, .slice nA m.next.length nc, .slice hA m.held.length hc]) ∧ OwnMix w.heap.size s1 s2 w' bA bc nA nc hA hc m ∧ Below w.heap.size w w'
theorem ints_one (xs : List Int) : ∀ u ∈ ints xs, u.oneCell' = true := by intro u hu; obtain ⟨x, _, rfl⟩ := List.mem_map.1 hu; rfl
theorem sets_one (xs : List Int) : ∀ u ∈ sets xs, u.oneCell' = true := by intro u hu; obtain ⟨x, _, rfl⟩ := List.mem_map.1 hu; rfl
end Go.Proofs.YtfpcpjnmffbhgaaDoor
