/-
  The contract of step.start: it starts an upgrade in a mix of one's own, if that is possible.
-/
import Derived.Test.YtfpcpjnmffbhgaaDoorMixOwn
namespace Go.Proofs.YtfpcpjnmffbhgaaDoor
open Go.RowKit
set_option linter.unusedSimpArgs false
set_option linter.unusedVariables false
set_option maxHeartbeats 2000000
set_option maxRecDepth 100000
/-- What is held after a start of version v of service i. -/
def heldStart (i v : Int) : List Tab → List Int → List Int
  | t :: ts, h :: hs => (if t.frm = i ∧ storedB t.kind = true then bits BinOp.or IntKind.u8 h (2 ^ v.toNat % 256) else h) :: heldStart i v ts hs
  | _, hs => hs
theorem heldStart_length (i v : Int) : ∀ (ts : List Tab) (hs : List Int), (heldStart i v ts hs).length = hs.length
  | [], hs => by cases hs <;> rfl
  | t :: ts, [] => rfl
  | t :: ts, h :: hs => by simp [heldStart, heldStart_length i v ts hs]
theorem heldStart_step (i v : Int) : ∀ (ts : List Tab) (hs : List Int) (k : Nat) (h : k < ts.length) (h' : k < hs.length),
    heldStart i v (ts.take (k + 1)) hs = (heldStart i v (ts.take k) hs).set k (if (ts[k]).frm = i ∧ storedB (ts[k]).kind = true then bits BinOp.or IntKind.u8 hs[k] (2 ^ v.toNat % 256) else hs[k]) ∧ (heldStart i v (ts.take k) hs)[k]? = some hs[k]
  | t :: ts, a :: hs, 0, _, _ => by cases ts <;> cases hs <;> simp [heldStart]
  | t :: ts, a :: hs, k + 1, h, h' => by
    obtain ⟨h1, h2⟩ := heldStart_step i v ts hs k (by simpa using h) (by simpa using h')
    constructor
    · simp only [List.take_succ_cons, heldStart, List.getElem_cons_succ, List.set_cons_succ]
      rw [h1]
    · simp only [List.take_succ_cons, heldStart, List.getElem_cons_succ, List.getElem?_cons_succ]
      exact h2
theorem heldStart_nil (i v : Int) (hs : List Int) : heldStart i v [] hs = hs := by cases hs <;> rfl
theorem set_same {α : Type} {l : List α} {k : Nat} {a : α} (h : l[k]? = some a) : l.set k a = l := by
  obtain ⟨hk, rfl⟩ := List.getElem?_eq_some_iff.1 h
  exact List.set_getElem_self hk
def startM (p : Prob) (m : MixD) (i v : Int) : MixD := { m with next := m.next.set i.toNat v, held := heldStart i v p.tabs m.held }
theorem start_no (pv : Value) (p : Prob) (m : MixD) (k i v : Int) (gm : Nat) (bA nA hA : Option Addr) (bc nc hc : Nat) (w : World) (hp : ProbAt w pv p) (hm : Blk w gm 26 #[.slice bA m.base.length bc, .slice nA m.next.length nc, .slice hA m.held.length hc])
    (hb : Cells w bA (ints m.base)) (hx : Cells w nA (ints m.next)) (i0 : 0 ≤ i) (i1 : i < m.base.length) (i2 : i < m.next.length) (hno : 0 ≤ m.next[i.toNat]'(by omega) ∨ m.base[i.toNat]'(by omega) = v) :
    Calls Tryd.prog 93 #[pv, .pointer (some ⟨gm, 0, none⟩), .agg #[.int .i64 k, .int .i64 i, .int .i64 v]] w fun e w' => e = .returned (.bool false) ∧ Below w.heap.size w w' := by
  obtain ⟨vA, vc, xA, xc, gA, gc, tA, tc, rfl, hv, hn, hg, ht, l1, l2, l3, l4⟩ := hp
  clear hv hn hg ht
  obtain ⟨b0, o0, rfl, hb0, p0⟩ := hb.at_int (k := i.toNat) (by omega)
  obtain ⟨b1, o1, rfl, hb1, p1⟩ := hx.at_int (k := i.toNat) (by omega)
  have Hno := hid hno
  clear hb hx hno
  generalize eb : m.base[i.toNat]'(by omega) = x at p0 Hno
  generalize en : m.next[i.toNat]'(by omega) = y at p1 Hno
  clear eb en
  go_enter Tryd.func93, Tryd.ntmps93
  go_wp2_with fail
  have X0 := ext_alloc (ext_alloc (ext_refl w) (.cells #[.slice vA p.vs.length vc, .slice xA p.now.length xc, .slice gA p.tgt.length gc, .slice tA p.tabs.length tc] 34)) (.cells #[.int .i64 k, .int .i64 i, .int .i64 v] 58)
  have S0 : Blk ((w.alloc (.cells #[.slice vA p.vs.length vc, .slice xA p.now.length xc, .slice gA p.tgt.length gc, .slice tA p.tabs.length tc] 34)).alloc (.cells #[.int .i64 k, .int .i64 i, .int .i64 v] 58)) (w.heap.size + 1) 58 #[.int .i64 k, .int .i64 i, .int .i64 v] := by (repeat (first | assumption | (with_reducible refine Blk.new' ?_; simp; done) | with_reducible refine Blk.alloc ?_ _ | with_reducible refine Blk.drew ?_ | with_reducible refine Blk.ext ?_ (by assumption)))
  have M0 := hm.ext X0
  have k0 := gr_blk S0
  have k1 := gr_blk M0
  have k2 := gr_cell (Nat.lt_of_lt_of_le hb0 X0.size) (gr_cell0 X0 hb0 p0)
  have k3 := gr_cell (Nat.lt_of_lt_of_le hb1 X0.size) (gr_cell0 X0 hb1 p1)
  clear p0 p1
  by_cases g1 : 0 ≤ y
  · have g1' : decide (0 ≤ y) = true := by simpa using g1
    refine wp_region_gr (by kernel_rfl) (by kernel_rfl) ?_
    repeat (go_big_quiet_step (fail))
    refine wpQuiet_nil ?_
    intro w9 hw'
    have hb9 := gr_out hw'
    clear hw'
    go_wp2_with fail
    go_ret
    exact ⟨rfl, ext_step X0 hb9⟩
  · have g1' : decide (0 ≤ y) = false := by simpa using g1
    have g2 : x = v := Hno.out.resolve_left g1
    have g2' : (x == v) = true := by simpa using g2
    clear g1 g2
    refine wp_region_gr (by kernel_rfl) (by kernel_rfl) ?_
    repeat (go_big_quiet_step (fail))
    refine wpQuiet_nil ?_
    intro w9 hw'
    have hb9 := gr_out hw'
    clear hw'
    go_wp2_with fail
    go_ret
    exact ⟨rfl, ext_step X0 hb9⟩
theorem start_yes (pv : Value) (p : Prob) (m : MixD) (k i v : Int) (gm lo s1 s2 : Nat) (bA nA hA : Option Addr) (bc nc hc : Nat) (wp w : World) (hp : ProbAt wp pv p) (hw : Below wp.heap.size wp w) (hwl : wp.heap.size ≤ lo) (hm : Blk w gm 26 #[.slice bA m.base.length bc, .slice nA m.next.length nc, .slice hA m.held.length hc])
    (hO : OwnMix lo s1 s2 w bA bc nA nc hA hc m) (hg1 : s2 ≤ gm) (hg2 : 0 < m.held.length → ∀ a, hA = some a → a.block < gm) (i0 : 0 ≤ i) (i1 : i < m.base.length) (i2 : i < m.next.length) (hlen : p.tabs.length ≤ m.held.length) (v0 : 0 ≤ v) (v1 : v < 8)
    (hno : m.next[i.toNat]'(by omega) < 0) (hne : ¬ m.base[i.toNat]'(by omega) = v) :
    Calls Tryd.prog 93 #[pv, .pointer (some ⟨gm, 0, none⟩), .agg #[.int .i64 k, .int .i64 i, .int .i64 v]] w fun e w' => e = .returned (.bool true) ∧ OwnMix lo s1 s2 w' bA bc nA nc hA hc (startM p m i v) ∧
      Blk w' gm 26 #[.slice bA m.base.length bc, .slice nA m.next.length nc, .slice hA m.held.length hc] ∧ Below lo w w' := by
  obtain ⟨vA, vc, xA, xc, gA, gc, tA, tc, rfl, hv, hn, hg, ht, l1, l2, l3, l4⟩ := hp
  have HT := hid ht
  clear hv hn hg ht
  have X0 := ext_alloc (ext_alloc (ext_refl w) (.cells #[.slice vA p.vs.length vc, .slice xA p.now.length xc, .slice gA p.tgt.length gc, .slice tA p.tabs.length tc] 34)) (.cells #[.int .i64 k, .int .i64 i, .int .i64 v] 58)
  have P0 : Blk ((w.alloc (.cells #[.slice vA p.vs.length vc, .slice xA p.now.length xc, .slice gA p.tgt.length gc, .slice tA p.tabs.length tc] 34)).alloc (.cells #[.int .i64 k, .int .i64 i, .int .i64 v] 58)) w.heap.size 34 #[.slice vA p.vs.length vc, .slice xA p.now.length xc, .slice gA p.tgt.length gc, .slice tA p.tabs.length tc] := by (repeat (first | assumption | (with_reducible refine Blk.new' ?_; simp; done) | with_reducible refine Blk.alloc ?_ _ | with_reducible refine Blk.drew ?_ | with_reducible refine Blk.ext ?_ (by assumption)))
  have S0 : Blk ((w.alloc (.cells #[.slice vA p.vs.length vc, .slice xA p.now.length xc, .slice gA p.tgt.length gc, .slice tA p.tabs.length tc] 34)).alloc (.cells #[.int .i64 k, .int .i64 i, .int .i64 v] 58)) (w.heap.size + 1) 58 #[.int .i64 k, .int .i64 i, .int .i64 v] := by (repeat (first | assumption | (with_reducible refine Blk.new' ?_; simp; done) | with_reducible refine Blk.alloc ?_ _ | with_reducible refine Blk.drew ?_ | with_reducible refine Blk.ext ?_ (by assumption)))
  have M0 := hm.ext X0
  have O0 := hO.ext X0
  have zl : lo ≤ w.heap.size := by have := hO.2.2.2; omega
  have zg := hm.lt
  have b0 := O0.baseAt (i := i.toNat) (by omega)
  obtain ⟨gb, rfl, y0, y1, y2, y3, y4⟩ := b0
  clear y4
  obtain ⟨gn, rfl, n0, n1, n2, n3, n4⟩ := O0.nextAt (i := i.toNat) (by omega) (by omega)
  clear n4
  have HO0 := hid O0
  have Hw := hid hw
  clear O0 hw hO hm
  generalize eb : m.base[i.toNat]'(by omega) = x at y2 hne
  generalize en : m.next[i.toNat]'(by omega) = y at n2 hno
  clear eb en
  go_enter Tryd.func93, Tryd.ntmps93
  go_wp2_with fail
  have Z0 : ((w.alloc (.cells #[.slice vA p.vs.length vc, .slice xA p.now.length xc, .slice gA p.tgt.length gc, .slice tA p.tabs.length tc] 34)).alloc (.cells #[.int .i64 k, .int .i64 i, .int .i64 v] 58)).heap.size = w.heap.size + 2 := by simp
  generalize ((w.alloc (.cells #[.slice vA p.vs.length vc, .slice xA p.now.length xc, .slice gA p.tgt.length gc, .slice tA p.tabs.length tc] 34)).alloc (.cells #[.int .i64 k, .int .i64 i, .int .i64 v] 58)) = w0 at X0 P0 S0 M0 y2 y3 n2 n3 HO0 Z0 ⊢
  have X0' := hid (X0.mono zl)
  have k0 := gr_blk S0
  have k1 := gr_blk M0
  have k2 := gr_cell (show gb < w0.heap.size by omega) y2
  have k3 := gr_cell (show gn < w0.heap.size by omega) n2
  have g1' : decide (0 ≤ y) = false := by simp; omega
  have g2' : (x == v) = false := by simpa using hne
  clear hne
  refine wp_region_gr (by kernel_rfl) (by kernel_rfl) ?_
  repeat (go_big_quiet_step (fail))
  refine wpQuiet_nil ?_
  intro w9 hw'
  have hb9 := gr_out hw'
  clear hw'
  clear k0 k1 k2 k3
  have P9 := P0.ext hb9
  have S9 := S0.ext hb9
  have M9 := M0.ext hb9
  have cS := S9.cell
  have cM := M9.cell
  have cN := ext_cell hb9 (show gn < w0.heap.size by omega) n2
  have fN : w9.frozen? ⟨gn, i.toNat, none⟩ = false := (hb9.frozen (p := ⟨gn, i.toNat, none⟩) (show gn < w0.heap.size by omega)).trans (n3 _)
  go_wp2_with fail
  go_region_held3 (fun w' => (∀ j, w'.cell? ⟨w.heap.size + 1, j, none⟩ = (#[.int .i64 k, .int .i64 i, .int .i64 v] : Array Value)[j]?) ∧ (∀ j, w'.cell? ⟨gm, j, none⟩ = (#[.slice (some ⟨gb, 0, none⟩) m.base.length bc, .slice (some ⟨gn, 0, none⟩) m.next.length nc, .slice hA m.held.length hc] : Array Value)[j]?)) (first | exact ⟨S9.cell, M9.cell⟩ | exact ⟨(S9.drew.far (by omega) _).cell, (M9.drew.far (by omega) _).cell⟩) (first | fail)
  obtain ⟨gn', e', n0', n1', n2', n3', n4⟩ := (HO0.out.ext hb9).drew.nextAt (i := i.toNat) (by omega) (by omega)
  cases e'
  have N4 : Hid (OwnMix lo s1 s2 (w9.setCell ⟨gn, i.toNat, none⟩ (.int .i64 v)).drew (some ⟨gb, 0, none⟩) bc (some ⟨gn, 0, none⟩) nc hA hc { m with next := m.next.set i.toNat v }) := n4 v
  clear n2' n3' n4
  have P1 : Blk (w9.setCell ⟨gn, i.toNat, none⟩ (.int .i64 v)).drew w.heap.size 34 #[.slice vA p.vs.length vc, .slice xA p.now.length xc, .slice gA p.tgt.length gc, .slice tA p.tabs.length tc] := P9.drew.far (b := gn) (i := i.toNat) (by omega) (.int .i64 v)
  have S1 : Blk (w9.setCell ⟨gn, i.toNat, none⟩ (.int .i64 v)).drew (w.heap.size + 1) 58 #[.int .i64 k, .int .i64 i, .int .i64 v] := S9.drew.far (b := gn) (i := i.toNat) (by omega) (.int .i64 v)
  have M1 : Blk (w9.setCell ⟨gn, i.toNat, none⟩ (.int .i64 v)).drew gm 26 #[.slice (some ⟨gb, 0, none⟩) m.base.length bc, .slice (some ⟨gn, 0, none⟩) m.next.length nc, .slice hA m.held.length hc] := M9.drew.far (b := gn) (i := i.toNat) (by omega) (.int .i64 v)
  have X1 : Hid (Below lo w (w9.setCell ⟨gn, i.toNat, none⟩ (.int .i64 v)).drew) := ((ext_step X0 hb9).drew.mono zl |>.setCell (p := ⟨gn, i.toNat, none⟩) (show lo ≤ gn by have := HO0.out.2.2.2; omega) (.int .i64 v))
  clear cS cM cN fN P9 S9 M9 P0 S0 M0 X0 X0'
  generalize (w9.setCell ⟨gn, i.toNat, none⟩ (.int .i64 v)).drew = wS at N4 P1 S1 M1 X1 ⊢
  have cP := P1.cell
  go_wp2_with fail
  go_loopw [43] (fun iv wr => ∃ j : Nat, j ≤ p.tabs.length ∧ iv = .int .i64 j ∧ Hid (OwnMix lo s1 s2 wr (some ⟨gb, 0, none⟩) bc (some ⟨gn, 0, none⟩) nc hA hc { m with next := m.next.set i.toNat v, held := heldStart i v (p.tabs.take j) m.held }) ∧
    Blk wr (w.heap.size + 1) 58 #[.int .i64 k, .int .i64 i, .int .i64 v] ∧ Blk wr gm 26 #[.slice (some ⟨gb, 0, none⟩) m.base.length bc, .slice (some ⟨gn, 0, none⟩) m.next.length nc, .slice hA m.held.length hc] ∧ Hid (Below lo w wr)) (fun iv _ => p.tabs.length - (intOf iv).toNat)
  case atStart => exact ⟨0, Nat.zero_le _, rfl, by rw [List.take_zero, heldStart_nil]; exact N4, S1, M1, X1⟩
  case round =>
    obtain ⟨j, hj, rfl, hO, S2, M2, X2⟩ := hrel
    have zS := S2.lt
    have zM := M2.lt
    have cS := S2.cell
    have cM := M2.cell
    by_cases hlt : j < p.tabs.length
    · obtain ⟨b, off, okA, okc, rwA, rwc, rfl, hbl, q0, q1, q2, q3, q4, q5, hm1, hm2, hn1, hn2⟩ := HT.out j hlt
      have XW := Hw.out.trans (X2.out.mono hwl)
      have p0 := gr_cell0 XW hbl q0
      have p1 := gr_cell0 XW hbl q1
      have p2 := gr_cell0 XW hbl q2
      have p3 := gr_cell0 XW hbl q3
      have p4 := gr_cell0 XW hbl q4
      have p5 := gr_cell0 XW hbl q5
      clear q0 q1 q2 q3 q4 q5 hm1 hm2 XW
      have HS := hid (heldStart_step i v p.tabs m.held j hlt (by omega))
      generalize p.tabs[j] = tb at p0 p1 p2 p3 p4 p5 HS
      by_cases g : tb.frm = i
      rotate_left
      · have g' : (tb.frm == i) = false := by simpa using g
        have G := hid g
        clear g
        go_wp2_with fail
        go_roundw
        case rel =>
          refine ⟨j + 1, by omega, by go_num, ?_, S2.alloc _, M2.alloc _, X2.out.alloc (by have := X2.out.size; omega) _⟩
          have h1 := hO.out.alloc (.cells #[.int .i64 tb.kind, .int .i64 tb.frm, .int .i64 tb.tto, .bool tb.aware, .slice okA tb.ok.length okc, .slice rwA tb.rw.length rwc] 83)
          have h2 := HS.out.1
          rw [if_neg (fun h => G.out h.1), set_same HS.out.2] at h2
          rw [h2]
          exact h1
        case measure => simp [intOf]; omega
      have g' : (tb.frm == i) = true := by simpa using g
      have G := hid g
      clear g
      go_wp2_with fail
      refine (sstored_any _ _ _ _ _ _ _ _ _ _ _).mono ?_
      rintro e w2 ⟨rfl, hb2⟩
      have z2 := hb2.size
      simp at z2
      have S3 := (S2.alloc (.cells #[.int .i64 tb.kind, .int .i64 tb.frm, .int .i64 tb.tto, .bool tb.aware, .slice okA tb.ok.length okc, .slice rwA tb.rw.length rwc] 83)).ext hb2
      have M3 := (M2.alloc (.cells #[.int .i64 tb.kind, .int .i64 tb.frm, .int .i64 tb.tto, .bool tb.aware, .slice okA tb.ok.length okc, .slice rwA tb.rw.length rwc] 83)).ext hb2
      have X3 := hid ((X2.out.alloc (show lo ≤ wr.heap.size by have := X2.out.size; omega) (.cells #[.int .i64 tb.kind, .int .i64 tb.frm, .int .i64 tb.tto, .bool tb.aware, .slice okA tb.ok.length okc, .slice rwA tb.rw.length rwc] 83)).trans (hb2.mono (show lo ≤ (wr.alloc (.cells #[.int .i64 tb.kind, .int .i64 tb.frm, .int .i64 tb.tto, .bool tb.aware, .slice okA tb.ok.length okc, .slice rwA tb.rw.length rwc] 83)).heap.size by have := X2.out.size; simp; omega)))
      have O3 := hid ((hO.out.alloc (.cells #[.int .i64 tb.kind, .int .i64 tb.frm, .int .i64 tb.tto, .bool tb.aware, .slice okA tb.ok.length okc, .slice rwA tb.rw.length rwc] 83)).ext hb2)
      clear cS cM
      have cS := S3.cell
      have cM := M3.cell
      by_cases gs : storedB tb.kind = true
      rotate_left
      · have gs' : storedB tb.kind = false := by simpa using gs
        clear gs
        go_wp2_with fail
        go_roundw
        case rel =>
          refine ⟨j + 1, by omega, by go_num, ?_, S3, M3, X3⟩
          have h2 := HS.out.1
          rw [if_neg (fun h => by rw [gs'] at h; exact absurd h.2 (by simp)), set_same HS.out.2] at h2
          rw [h2]
          exact O3
        case measure => simp [intOf]; omega
      obtain ⟨gh, rfl, r0, r1, r2, r3, r4⟩ := O3.out.heldAt (i := j) (by simp [heldStart_length]; omega) (by simp; omega) (by simp; omega)
      have r2' : w2.cell? ⟨gh, j, none⟩ = some (.int .u8 m.held[j]) := by
        rw [r2]
        have := HS.out.2
        rw [List.getElem?_eq_getElem (by simp [heldStart_length]; omega)] at this
        rw [Option.some.inj this]
      clear r2
      have hgm : gh < gm := hg2 (by omega) _ rfl
      have HS1 := hid HS.out.1
      clear HS
      generalize m.held[j] = h0 at r2' HS1
      have F2 := r3 j
      go_wp2_with fail
      go_region
      have O4 := hid (r4 (bits BinOp.or IntKind.u8 h0 (2 ^ v.toNat % 256)))
      clear r4
      have S4 := S3.far (b := gh) (i := j) (by omega) (.int .u8 (bits BinOp.or IntKind.u8 h0 (2 ^ v.toNat % 256)))
      have M4 := M3.far (b := gh) (i := j) (by omega) (.int .u8 (bits BinOp.or IntKind.u8 h0 (2 ^ v.toNat % 256)))
      have X4 := hid (X3.out.setCell (p := ⟨gh, j, none⟩) (show lo ≤ gh by have := HO0.out.2.2.2; omega) (.int .u8 (bits BinOp.or IntKind.u8 h0 (2 ^ v.toNat % 256))))
      go_wp2_with fail
      go_roundw
      case rel =>
        refine ⟨j + 1, by omega, by go_num, ?_, S4.drew, M4.drew, X4.out.drew⟩
        have h2 := HS1.out
        rw [if_pos ⟨G.out, gs⟩] at h2
        rw [h2]
        exact O4
      case measure => simp [intOf]; omega
    · have hjj : j = p.tabs.length := by omega
      have HJ := hid hjj
      clear hjj
      go_wp2_with fail
      go_ret
      refine ⟨rfl, ?_, M2, X2.out⟩
      have h1 := hO.out
      rw [HJ.out, List.take_length] at h1
      exact h1
end Go.Proofs.YtfpcpjnmffbhgaaDoor
