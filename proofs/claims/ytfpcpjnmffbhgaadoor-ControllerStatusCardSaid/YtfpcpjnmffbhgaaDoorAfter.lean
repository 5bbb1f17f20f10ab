/-
  The contract of step.after for starts, finishes and aborts.
-/
import Derived.Test.YtfpcpjnmffbhgaaDoorStart
import Derived.Deep.Cut
namespace Go.Proofs.YtfpcpjnmffbhgaaDoor
open Go.RowKit
set_option linter.unusedSimpArgs false
set_option linter.unusedVariables false
set_option maxHeartbeats 2000000
set_option maxRecDepth 100000
/-- The mix after a start, a finish or an abort, if it is possible. -/
def afterP (p : Prob) (m : MixD) (s : StepD) : Option MixD :=
  if s.kind = 1 then (if 0 ≤ m.next.getD s.idx.toNat 0 ∨ m.base.getD s.idx.toNat 0 = s.ver then none else some (startM p m s.idx s.ver))
  else if m.next.getD s.idx.toNat 0 < 0 then none
  else some { m with next := m.next.set s.idx.toNat (-1), base := if s.kind = 2 then m.base.set s.idx.toNat (m.next.getD s.idx.toNat 0) else m.base }
/-- What is returned: a mix of its own and true, or some mix and false. -/
def AfterPost (w : World) : Option MixD → Ending → World → Prop
  | none, e, w' => ∃ (a b c : Option Addr) (n1 c1 n2 c2 n3 c3 : Nat), e = .returned (.tuple #[.agg #[.slice a n1 c1, .slice b n2 c2, .slice c n3 c3], .bool false]) ∧ Below w.heap.size w w'
  | some m, e, w' => ∃ s1 s2 bA bc nA nc hA hc, e = .returned (.tuple #[.agg #[.slice bA m.base.length bc, .slice nA m.next.length nc, .slice hA m.held.length hc], .bool true]) ∧ OwnMix w.heap.size s1 s2 w' bA bc nA nc hA hc m ∧ Below w.heap.size w w'
theorem Blk.below {w w' : World} {g B : Nat} {t : TypeId} {cs : Array Value} (h : Blk w g t cs) (hb : Below B w w') (hg : g < B) : Blk w' g t cs := (hb.block g hg).trans h
theorem getD_at {l : List Int} {k : Nat} (h : k < l.length) : l.getD k 0 = l[k] := by simp [List.getD_eq_getElem?_getD, List.getElem?_eq_getElem h]
theorem after_any (pv mv : Value) (p : Prob) (m : MixD) (k i v : Int) (w : World) (hp : ProbAt w pv p) (hm : MixAt w mv m) (hk : ¬ k = 3) (i0 : 0 ≤ i) (i1 : i < m.base.length) (i2 : i < m.next.length) (hlen : p.tabs.length ≤ m.held.length) (v0 : 0 ≤ v) (v1 : v < 8)
    (l0 : m.base.length ≤ 1099511627776) (l1 : m.next.length ≤ 1099511627776) (l2 : m.held.length ≤ 1099511627776) :
    Calls Tryd.prog 88 #[pv, mv, .agg #[.int .i64 k, .int .i64 i, .int .i64 v]] w (AfterPost w (afterP p m ⟨k, i, v⟩)) := by
  have HP := hid hp
  have HM := hid hm
  obtain ⟨vA, vc, yA, yc, gA, gc, tA, tc, rfl, hv, hn, hg, ht, l3, l4, l5, l6⟩ := hp
  obtain ⟨bA, bc, xA, xc, hA, hc, rfl, hb, hx, hh, m0, m1, m2⟩ := hm
  clear hv hn hg ht hb hx hh
  go_enter Tryd.func88, Tryd.ntmps88
  go_wp2_with fail
  have X0 := ext_alloc (ext_alloc (ext_alloc (ext_alloc (ext_refl w) (.cells #[.slice vA p.vs.length vc, .slice yA p.now.length yc, .slice gA p.tgt.length gc, .slice tA p.tabs.length tc] 34)) (.cells #[.slice bA m.base.length bc, .slice xA m.next.length xc, .slice hA m.held.length hc] 26)) (.cells #[.int .i64 k, .int .i64 i, .int .i64 v] 58)) (.cells #[.slice none 0 0, .slice none 0 0, .slice none 0 0] 26)
  have P0 : Blk ((((w.alloc (.cells #[.slice vA p.vs.length vc, .slice yA p.now.length yc, .slice gA p.tgt.length gc, .slice tA p.tabs.length tc] 34)).alloc (.cells #[.slice bA m.base.length bc, .slice xA m.next.length xc, .slice hA m.held.length hc] 26)).alloc (.cells #[.int .i64 k, .int .i64 i, .int .i64 v] 58)).alloc (.cells #[.slice none 0 0, .slice none 0 0, .slice none 0 0] 26)) w.heap.size 34 #[.slice vA p.vs.length vc, .slice yA p.now.length yc, .slice gA p.tgt.length gc, .slice tA p.tabs.length tc] := by (repeat (first | assumption | (with_reducible refine Blk.new' ?_; simp; done) | with_reducible refine Blk.alloc ?_ _ | with_reducible refine Blk.drew ?_ | with_reducible refine Blk.ext ?_ (by assumption)))
  have S0 : Blk ((((w.alloc (.cells #[.slice vA p.vs.length vc, .slice yA p.now.length yc, .slice gA p.tgt.length gc, .slice tA p.tabs.length tc] 34)).alloc (.cells #[.slice bA m.base.length bc, .slice xA m.next.length xc, .slice hA m.held.length hc] 26)).alloc (.cells #[.int .i64 k, .int .i64 i, .int .i64 v] 58)).alloc (.cells #[.slice none 0 0, .slice none 0 0, .slice none 0 0] 26)) (w.heap.size + 1 + 1) 58 #[.int .i64 k, .int .i64 i, .int .i64 v] := by (repeat (first | assumption | (with_reducible refine Blk.new' ?_; simp; done) | with_reducible refine Blk.alloc ?_ _ | with_reducible refine Blk.drew ?_ | with_reducible refine Blk.ext ?_ (by assumption)))
  have R0 : Blk ((((w.alloc (.cells #[.slice vA p.vs.length vc, .slice yA p.now.length yc, .slice gA p.tgt.length gc, .slice tA p.tabs.length tc] 34)).alloc (.cells #[.slice bA m.base.length bc, .slice xA m.next.length xc, .slice hA m.held.length hc] 26)).alloc (.cells #[.int .i64 k, .int .i64 i, .int .i64 v] 58)).alloc (.cells #[.slice none 0 0, .slice none 0 0, .slice none 0 0] 26)) (w.heap.size + 1 + 1 + 1) 26 #[.slice none 0 0, .slice none 0 0, .slice none 0 0] := by (repeat (first | assumption | (with_reducible refine Blk.new' ?_; simp; done) | with_reducible refine Blk.alloc ?_ _ | with_reducible refine Blk.drew ?_ | with_reducible refine Blk.ext ?_ (by assumption)))
  have Z0 : ((((w.alloc (.cells #[.slice vA p.vs.length vc, .slice yA p.now.length yc, .slice gA p.tgt.length gc, .slice tA p.tabs.length tc] 34)).alloc (.cells #[.slice bA m.base.length bc, .slice xA m.next.length xc, .slice hA m.held.length hc] 26)).alloc (.cells #[.int .i64 k, .int .i64 i, .int .i64 v] 58)).alloc (.cells #[.slice none 0 0, .slice none 0 0, .slice none 0 0] 26)).heap.size = w.heap.size + 4 := by simp
  generalize ((((w.alloc (.cells #[.slice vA p.vs.length vc, .slice yA p.now.length yc, .slice gA p.tgt.length gc, .slice tA p.tabs.length tc] 34)).alloc (.cells #[.slice bA m.base.length bc, .slice xA m.next.length xc, .slice hA m.held.length hc] 26)).alloc (.cells #[.int .i64 k, .int .i64 i, .int .i64 v] 58)).alloc (.cells #[.slice none 0 0, .slice none 0 0, .slice none 0 0] 26)) = w0 at X0 P0 S0 R0 Z0 ⊢
  refine (cloned_any _ m _ (HM.out.ext X0) l0 l1 l2).mono ?_
  rintro e w1 ⟨s1, s2, bB, bd, nB, nd, hB, hd, rfl, hO, hb1⟩
  have O1 := hid hO
  have z1 := hb1.size
  have zz := hO.2.2.2
  have zh := hO.2.2.1.lt
  have ZH := hid zh
  have P1 := P0.ext hb1
  have S1 := S0.ext hb1
  have R1 := R0.ext hb1
  have X1 := hid (ext_step X0 hb1)
  clear hO hb1 P0 S0 R0 X0 zh
  have cS := S1.cell
  have y1 : w.heap.size < w1.heap.size := by omega
  have y2 : w.heap.size + 1 < w1.heap.size := by omega
  have y3 : w.heap.size + 1 + 1 < w1.heap.size := by omega
  have y4 : w.heap.size + 1 + 1 + 1 < w1.heap.size := by omega
  have eb := getD_at (l := m.base) (k := i.toNat) (by omega)
  have en := getD_at (l := m.next) (k := i.toNat) (by omega)
  have EB := hid eb
  have EN := hid en
  clear eb en
  by_cases k1 : k = 1
  · subst k1
    go_wp2_with fail
    have G2 : Blk (w1.alloc (.cells #[.slice bB m.base.length bd, .slice nB m.next.length nd, .slice hB m.held.length hd] 26)) w1.heap.size 26 #[.slice bB m.base.length bd, .slice nB m.next.length nd, .slice hB m.held.length hd] := Blk.new _ _ _
    have P2 := P1.alloc (.cells #[.slice bB m.base.length bd, .slice nB m.next.length nd, .slice hB m.held.length hd] 26)
    have S2 := S1.alloc (.cells #[.slice bB m.base.length bd, .slice nB m.next.length nd, .slice hB m.held.length hd] 26)
    have R2 := R1.alloc (.cells #[.slice bB m.base.length bd, .slice nB m.next.length nd, .slice hB m.held.length hd] 26)
    have X2 := hid (ext_alloc X1.out (.cells #[.slice bB m.base.length bd, .slice nB m.next.length nd, .slice hB m.held.length hd] 26))
    have O2 := hid (O1.out.alloc (.cells #[.slice bB m.base.length bd, .slice nB m.next.length nd, .slice hB m.held.length hd] 26))
    have Z2 : (w1.alloc (.cells #[.slice bB m.base.length bd, .slice nB m.next.length nd, .slice hB m.held.length hd] 26)).heap.size = w1.heap.size + 1 := by simp
    clear P1 S1 R1 X1 O1 cS
    generalize (w1.alloc (.cells #[.slice bB m.base.length bd, .slice nB m.next.length nd, .slice hB m.held.length hd] 26)) = w2 at G2 P2 S2 R2 X2 O2 Z2 ⊢
    by_cases hno : 0 ≤ m.next[i.toNat]'(by omega) ∨ m.base[i.toNat]'(by omega) = v
    · have HA : Hid (afterP p m ⟨1, i, v⟩ = none) := by show _ = _; unfold afterP; rw [if_pos rfl, if_pos (by rw [EN.out, EB.out]; exact hno)]
      go_region_held3 (fun w' => (∀ j, w'.cell? ⟨w1.heap.size, j, none⟩ = (#[.slice bB m.base.length bd, .slice nB m.next.length nd, .slice hB m.held.length hd] : Array Value)[j]?) ∧ (∀ j, w'.cell? ⟨w.heap.size, j, none⟩ = (#[.slice vA p.vs.length vc, .slice yA p.now.length yc, .slice gA p.tgt.length gc, .slice tA p.tabs.length tc] : Array Value)[j]?) ∧ (∀ j, w'.cell? ⟨w.heap.size + 1 + 1, j, none⟩ = (#[.int .i64 1, .int .i64 i, .int .i64 v] : Array Value)[j]?)) (first | exact ⟨G2.cell, P2.cell, S2.cell⟩ | exact ⟨G3.cell, P3.cell, S3.cell⟩ | exact ⟨(((G3.far (by omega) _).far (by omega) _).far (by omega) _).cell, (((P3.far (by omega) _).far (by omega) _).far (by omega) _).cell, (((S3.far (by omega) _).far (by omega) _).far (by omega) _).cell⟩)
        (first | (go_at_call 93; refine (start_no _ p m 1 i v w1.heap.size bB nB hB bd nd hd _ (HP.out.ext (ext_drew X2.out)) G2.drew O2.out.drew.1.cells O2.out.drew.2.1.cells i0 i1 i2 hno).mono ?_; rintro e w3 ⟨rfl, hb3⟩; have G3 := G2.drew.ext hb3; have P3 := P2.drew.ext hb3; have S3 := S2.drew.ext hb3; have R3 := R2.drew.ext hb3; have X3 := hid (ext_step (ext_drew X2.out) hb3); have cR := R3.cell; have fR := R3.frozen))
      go_wp2_with fail
      have cR' := (blk3 (x := .slice bB m.base.length bd) (y := .slice nB m.next.length nd) (z := .slice hB m.held.length hd) R3).cell
      refine bodyPost_ret (by simp [results, Tryd.results88, go_sem, cR']; rfl) rfl ?_
      rw [HA.out]
      exact ⟨bB, nB, hB, _, bd, _, nd, _, hd, rfl, below3 X3.out (by omega)⟩
    · have HA : Hid (afterP p m ⟨1, i, v⟩ = some (startM p m i v)) := by show _ = _; unfold afterP; rw [if_pos rfl, if_neg (by rw [EN.out, EB.out]; exact hno)]
      have hn1 : m.next[i.toNat]'(by omega) < 0 := by omega
      have hn2 : ¬ m.base[i.toNat]'(by omega) = v := fun h => hno (.inr h)
      have HN1 := hid hn1
      have HN2 := hid hn2
      clear hno hn1 hn2
      go_region_held3 (fun w' => (∀ j, w'.cell? ⟨w1.heap.size, j, none⟩ = (#[.slice bB m.base.length bd, .slice nB m.next.length nd, .slice hB m.held.length hd] : Array Value)[j]?) ∧ (∀ j, w'.cell? ⟨w.heap.size, j, none⟩ = (#[.slice vA p.vs.length vc, .slice yA p.now.length yc, .slice gA p.tgt.length gc, .slice tA p.tabs.length tc] : Array Value)[j]?) ∧ (∀ j, w'.cell? ⟨w.heap.size + 1 + 1, j, none⟩ = (#[.int .i64 1, .int .i64 i, .int .i64 v] : Array Value)[j]?)) (first | exact ⟨G2.cell, P2.cell, S2.cell⟩ | exact ⟨G3.cell, P3.cell, S3.cell⟩ | exact ⟨(((G3.far (by omega) _).far (by omega) _).far (by omega) _).cell, (((P3.far (by omega) _).far (by omega) _).far (by omega) _).cell, (((S3.far (by omega) _).far (by omega) _).far (by omega) _).cell⟩)
        (first | (go_at_call 93; refine (start_yes _ p m 1 i v w1.heap.size w0.heap.size s1 s2 bB nB hB bd nd hd w _ HP.out (ext_drew X2.out) (by omega) G2.drew O2.out.drew (by omega) ZH.out i0 i1 i2 hlen v0 v1 HN1.out HN2.out).mono ?_; rintro e w3 ⟨rfl, hO3, G3, hb3⟩; have O3 := hid hO3; have P3 := P2.drew.below hb3 (by omega); have S3 := S2.drew.below hb3 (by omega); have R3 := R2.drew.below hb3 (by omega); have X3 := hid ((ext_drew X2.out).trans (hb3.mono (by omega))); have z3 := hb3.size; have zO := hO3.2.2.2; clear hO3; have cR := R3.cell; have fR := R3.frozen))
      go_wp2_with fail
      have cR' := (blk3 (x := .slice bB m.base.length bd) (y := .slice nB m.next.length nd) (z := .slice hB m.held.length hd) R3).cell
      refine bodyPost_ret (by simp [results, Tryd.results88, go_sem, cR']; rfl) rfl ?_
      rw [HA.out]
      refine ⟨s1, s2, bB, bd, nB, nd, hB, hd, ?_, ?_, below3 X3.out (by omega)⟩
      · simp [startM, heldStart_length]
      · obtain ⟨h1, h2, h3, h4, h5, h6, h7, h8⟩ := O3.out
        exact ⟨(h1.far3 (by omega)).mono (by omega), h2.far3 (by omega), h3.far3 (by omega), by omega, h5, by simp only [size_set]; exact h6, h7, h8⟩
  have k1' : (k == 1) = false := by simpa using k1
  have k3' : (k == 3) = false := by simpa using hk
  have HA : Hid (afterP p m ⟨k, i, v⟩ = if m.next.getD i.toNat 0 < 0 then none else some { m with next := m.next.set i.toNat (-1), base := if k = 2 then m.base.set i.toNat (m.next.getD i.toNat 0) else m.base }) := by show _ = _; unfold afterP; rw [if_neg k1]
  clear k1 hk
  go_upto_region 7 with (fail)
  have G2 : Blk (w1.alloc (.cells #[.slice bB m.base.length bd, .slice nB m.next.length nd, .slice hB m.held.length hd] 26)) w1.heap.size 26 #[.slice bB m.base.length bd, .slice nB m.next.length nd, .slice hB m.held.length hd] := Blk.new _ _ _
  have S2 := S1.alloc (.cells #[.slice bB m.base.length bd, .slice nB m.next.length nd, .slice hB m.held.length hd] 26)
  have R2 := R1.alloc (.cells #[.slice bB m.base.length bd, .slice nB m.next.length nd, .slice hB m.held.length hd] 26)
  have X2 := hid (ext_alloc X1.out (.cells #[.slice bB m.base.length bd, .slice nB m.next.length nd, .slice hB m.held.length hd] 26))
  have O2 := hid (O1.out.alloc (.cells #[.slice bB m.base.length bd, .slice nB m.next.length nd, .slice hB m.held.length hd] 26))
  have Z2 : (w1.alloc (.cells #[.slice bB m.base.length bd, .slice nB m.next.length nd, .slice hB m.held.length hd] 26)).heap.size = w1.heap.size + 1 := by simp
  generalize (w1.alloc (.cells #[.slice bB m.base.length bd, .slice nB m.next.length nd, .slice hB m.held.length hd] 26)) = w2 at G2 S2 R2 X2 O2 Z2 ⊢
  obtain ⟨gn, rfl, n0, n1, n2, n3, n4⟩ := O2.out.nextAt (i := i.toNat) (by omega) (by omega)
  obtain ⟨gb, rfl, b0, b1, b2, b3, b4⟩ := O2.out.baseAt (i := i.toNat) (by omega)
  have cG := G2.cell
  have cS2 := S2.cell
  have fn := n3 i.toNat
  clear b4 n3
  generalize eq1 : m.next[i.toNat]'(by omega) = y at n2
  have EY : Hid (m.next.getD i.toNat 0 = y) := EN.out.trans eq1
  clear eq1
  by_cases hy : y < 0
  · have cR := R2.cell
    have fR := R2.frozen
    go_wp2_with fail
    have cR' := (blk3 (x := .slice (some ⟨gb, 0, none⟩) m.base.length bd) (y := .slice (some ⟨gn, 0, none⟩) m.next.length nd) (z := .slice hB m.held.length hd) R2).cell
    refine bodyPost_ret (by simp [results, Tryd.results88, go_sem, cR']; rfl) rfl ?_
    rw [HA.out, if_pos (by rw [EY.out]; exact hy)]
    exact ⟨_, _, hB, _, bd, _, nd, _, hd, rfl, below3 X2.out (by omega)⟩
  have O3 := hid (n4 (-1))
  clear n4
  have G3 := G2.far (b := gn) (i := i.toNat) (by omega) (.int .i64 (-1))
  have S3 := S2.far (b := gn) (i := i.toNat) (by omega) (.int .i64 (-1))
  have R3 := R2.far (b := gn) (i := i.toNat) (by omega) (.int .i64 (-1))
  have X3 := hid (X2.out.setCell (p := ⟨gn, i.toNat, none⟩) (show w.heap.size ≤ gn by omega) (.int .i64 (-1)))
  obtain ⟨gb', eb', b0', b1', b2', b3', b4'⟩ := O3.out.baseAt (i := i.toNat) (by simpa using (show i.toNat < m.base.length by omega))
  cases eb'
  have O4 := hid (b4' y)
  clear b4'
  have cG3 := G3.cell
  have cS3 := S3.cell
  have fb := b3' i.toNat
  by_cases k2 : k = 2
  · have k2' : (k == 2) = true := by simpa using k2
    have HA' : Hid (afterP p m ⟨k, i, v⟩ = some { m with next := m.next.set i.toNat (-1), base := m.base.set i.toNat y }) := by
      show _ = _; rw [HA.out, if_neg (by rw [EY.out]; exact hy), if_pos k2, EY.out]
    clear k2 HA
    have G4 := G3.far (b := gb) (i := i.toNat) (by omega) (.int .i64 y)
    have R4 := R3.far (b := gb) (i := i.toNat) (by omega) (.int .i64 y)
    have X4 := hid (X3.out.setCell (p := ⟨gb, i.toNat, none⟩) (show w.heap.size ≤ gb by omega) (.int .i64 y))
    have cG4 := G4.cell
    have cR := R4.cell
    have fR := R4.frozen
    go_wp2_with fail
    have cR' := (blk3 (x := .slice (some ⟨gb, 0, none⟩) m.base.length bd) (y := .slice (some ⟨gn, 0, none⟩) m.next.length nd) (z := .slice hB m.held.length hd) R4).cell
    refine bodyPost_ret (by simp [results, Tryd.results88, go_sem, cR']; rfl) rfl ?_
    rw [HA'.out]
    refine ⟨s1, s2, some ⟨gb, 0, none⟩, bd, some ⟨gn, 0, none⟩, nd, hB, hd, by simp, ?_, below3 X4.out (by omega)⟩
    obtain ⟨h1, h2, h3, h4, h5, h6, h7, h8⟩ := O4.out
    exact ⟨(h1.far3 (by omega)).mono (by omega), h2.far3 (by omega), h3.far3 (by omega), by omega, h5, by simp only [size_set] at h6 ⊢; exact h6, h7, h8⟩
  · have k2' : (k == 2) = false := by simpa using k2
    have HA' : Hid (afterP p m ⟨k, i, v⟩ = some { m with next := m.next.set i.toNat (-1) }) := by
      show _ = _; rw [HA.out, if_neg (by rw [EY.out]; exact hy), if_neg k2]
    clear k2 HA O4
    have cR := R3.cell
    have fR := R3.frozen
    go_wp2_with fail
    have cR' := (blk3 (x := .slice (some ⟨gb, 0, none⟩) m.base.length bd) (y := .slice (some ⟨gn, 0, none⟩) m.next.length nd) (z := .slice hB m.held.length hd) R3).cell
    refine bodyPost_ret (by simp [results, Tryd.results88, go_sem, cR']; rfl) rfl ?_
    rw [HA'.out]
    refine ⟨s1, s2, some ⟨gb, 0, none⟩, bd, some ⟨gn, 0, none⟩, nd, hB, hd, by simp, ?_, below3 X3.out (by omega)⟩
    obtain ⟨h1, h2, h3, h4, h5, h6, h7, h8⟩ := O3.out
    exact ⟨(h1.far3 (by omega)).mono (by omega), h2.far3 (by omega), h3.far3 (by omega), by omega, h5, by simp only [size_set] at h6 ⊢; exact h6, h7, h8⟩
end Go.Proofs.YtfpcpjnmffbhgaaDoor
