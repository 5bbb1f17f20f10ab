/-
  The contract of mix.Valid: it returns the error of a mix, and changes nothing that was there.
-/
import Derived.Test.YtfpcpjnmffbhgaaDoorMixWalk
namespace Go.Proofs.YtfpcpjnmffbhgaaDoor
open Go.RowKit
set_option linter.unusedSimpArgs false
set_option linter.unusedVariables false
set_option maxHeartbeats 1500000
set_option maxRecDepth 100000
theorem tabs_zero {vs : List Int} {ts : List Tab} (h : tabsErr vs ts = 0) : ∀ t ∈ ts, tabErr vs t = 0 := by
  induction ts with
  | nil => intro t ht; cases ht
  | cons a r ih =>
    by_cases g : tabErr vs a = 0
    · have e : tabsErr vs (a :: r) = tabsErr vs r := by show (if tabErr vs a ≠ 0 then _ else _) = _; rw [if_neg (by simp [g])]
      intro t ht
      rcases List.mem_cons.1 ht with rfl | ht
      · exact g
      · exact ih (e ▸ h) t ht
    · have e : tabsErr vs (a :: r) = tabErr vs a := by show (if tabErr vs a ≠ 0 then _ else _) = _; rw [if_pos g]
      exact absurd (e ▸ h) g
theorem rng_le {vs now tgt : List Int} (h : rngOK vs now tgt = true) (h1 : vs.length ≤ now.length) (h2 : vs.length ≤ tgt.length) : ∀ i (hi : i < vs.length), 1 ≤ vs[i] ∧ vs[i] ≤ 6 := by
  induction vs generalizing now tgt with
  | nil => intro i hi; simp at hi
  | cons a r ih =>
    match now, tgt, h1, h2 with
    | b :: now, c :: tgt, h1, h2 =>
      simp only [rngOK, Bool.and_eq_true, decide_eq_true_eq] at h
      intro i hi
      match i with
      | 0 => exact h.1.1.1
      | i + 1 => exact ih h.2 (by simpa using h1) (by simpa using h2) i (by simpa using hi)
theorem vp_zero {p : Prob} (h : vpErr p = 0) : (∀ i (hi : i < p.vs.length), 1 ≤ p.vs[i] ∧ p.vs[i] ≤ 6) ∧ (∀ j (hj : j < p.tabs.length), tabErr p.vs p.tabs[j] = 0) ∧ p.vs.length ≤ 6 ∧ p.tabs.length ≤ 12 ∧ p.now.length = p.vs.length ∧ p.tgt.length = p.vs.length := by
  unfold vpErr at h
  split at h
  · simp at h
  split at h
  · simp at h
  split at h
  · simp at h
  rename_i a b c
  refine ⟨rng_le (by simpa using c) (by omega) (by omega), fun j hj => tabs_zero h _ (List.getElem_mem hj), by omega, by omega, by omega, by omega⟩
theorem tab_zero {vs : List Int} {t : Tab} (h : tabErr vs t = 0) : 0 ≤ t.frm ∧ t.frm < vs.length ∧ 0 ≤ t.tto ∧ t.tto < vs.length := by
  unfold tabErr at h
  split at h
  · simp at h
  split at h
  · simp at h
  rename_i a b
  simp [withinB] at b
  omega
theorem held_step {vs base next : List Int} {ts : List Tab} {hs : List Int} {k : Nat} (h : k < ts.length) (h' : k < hs.length) : heldErr vs base next (ts.drop k) (hs.drop k) = if heldBad vs base next ts[k] hs[k] = true then 1 else heldErr vs base next (ts.drop (k + 1)) (hs.drop (k + 1)) := by
  rw [drop_cons h, drop_cons h']; rfl
theorem mixValid_any (pv mv : Value) (p : Prob) (m : MixD) (w : World) (hp : ProbAt w pv p) (hm : MixAt w mv m) :
    Calls Tryd.prog 70 #[pv, mv] w fun e w' => e = .returned (.int .i64 (mixErr p m)) ∧ Below w.heap.size w w' := by
  have HP := hid hp
  obtain ⟨vA, vc, nA, nc, gA, gc, tA, tc, rfl, hv, hn, hg, ht, l0, l1, l2, l3⟩ := hp
  obtain ⟨bA, bc, xA, xc, hA, hc, rfl, hb, hx, hh, m0, m1, m2⟩ := hm
  have HV := hid hv
  have HT := hid ht
  have HB := hid hb
  have HX := hid hx
  have HH := hid hh
  clear hv hn hg ht hb hx hh
  by_cases c1 : vpErr p = 0
  rotate_left
  · have c1' : (vpErr p != 0) = true := by simpa using c1
    have C1 := hid c1
    clear c1
    go_enter Tryd.func70, Tryd.ntmps70
    go_wp2_with fail
    refine (validProblem_any _ p _ (HP.out.ext (ext_alloc (ext_alloc (ext_refl _) _) _))).mono ?_
    rintro e w1 ⟨rfl, hb1⟩
    obtain ⟨hc1, hf1⟩ := bcell hb1
    have hz1 := hb1.size
    try simp at hz1
    have z1_0 : w.heap.size < w1.heap.size := by omega
    have z1_1 : w.heap.size + 1 < w1.heap.size := by omega
    go_wp2_with fail
    go_ret
    refine ⟨ret_int (by unfold mixErr; rw [if_pos C1.out]), ?_⟩
    (repeat (first | with_reducible exact ext_refl _ | with_reducible refine ext_alloc ?_ _ | with_reducible refine ext_set ?_ (by omega) _ | with_reducible refine ext_drew ?_ | with_reducible refine ext_step ?_ (by assumption)))
  have c1' : (vpErr p != 0) = false := by simpa using c1
  have C1 := hid c1
  clear c1
  by_cases c2 : m.base.length = p.vs.length
  rotate_left
  · have c2' : ((m.base.length : Int) != p.vs.length) = true := by simp; omega
    go_enter Tryd.func70, Tryd.ntmps70
    go_wp2_with fail
    refine (validProblem_any _ p _ (HP.out.ext (ext_alloc (ext_alloc (ext_refl _) _) _))).mono ?_
    rintro e w1 ⟨rfl, hb1⟩
    obtain ⟨hc1, hf1⟩ := bcell hb1
    have hz1 := hb1.size
    try simp at hz1
    have z1_0 : w.heap.size < w1.heap.size := by omega
    have z1_1 : w.heap.size + 1 < w1.heap.size := by omega
    go_wp2_with fail
    go_ret
    refine ⟨ret_int (by unfold mixErr; rw [if_neg (by simp [C1.out]), if_pos (.inl c2)]), ?_⟩
    (repeat (first | with_reducible exact ext_refl _ | with_reducible refine ext_alloc ?_ _ | with_reducible refine ext_set ?_ (by omega) _ | with_reducible refine ext_drew ?_ | with_reducible refine ext_step ?_ (by assumption)))
  have c2' : ((m.base.length : Int) != p.vs.length) = false := by simp; omega
  have d2 : m.base.length ≤ p.vs.length := by omega
  have d2' : p.vs.length ≤ m.base.length := by omega
  have C2 := hid c2
  clear c2
  by_cases c3 : m.next.length = p.vs.length
  rotate_left
  · have c3' : ((m.next.length : Int) != p.vs.length) = true := by simp; omega
    go_enter Tryd.func70, Tryd.ntmps70
    go_wp2_with fail
    refine (validProblem_any _ p _ (HP.out.ext (ext_alloc (ext_alloc (ext_refl _) _) _))).mono ?_
    rintro e w1 ⟨rfl, hb1⟩
    obtain ⟨hc1, hf1⟩ := bcell hb1
    have hz1 := hb1.size
    try simp at hz1
    have z1_0 : w.heap.size < w1.heap.size := by omega
    have z1_1 : w.heap.size + 1 < w1.heap.size := by omega
    go_wp2_with fail
    go_ret
    refine ⟨ret_int (by unfold mixErr; rw [if_neg (by simp [C1.out]), if_pos (.inr (.inl c3))]), ?_⟩
    (repeat (first | with_reducible exact ext_refl _ | with_reducible refine ext_alloc ?_ _ | with_reducible refine ext_set ?_ (by omega) _ | with_reducible refine ext_drew ?_ | with_reducible refine ext_step ?_ (by assumption)))
  have c3' : ((m.next.length : Int) != p.vs.length) = false := by simp; omega
  have d3 : m.next.length ≤ p.vs.length := by omega
  have d3' : p.vs.length ≤ m.next.length := by omega
  have C3 := hid c3
  clear c3
  by_cases c4 : m.held.length = p.tabs.length
  rotate_left
  · have c4' : ((m.held.length : Int) != p.tabs.length) = true := by simp; omega
    go_enter Tryd.func70, Tryd.ntmps70
    go_wp2_with fail
    refine (validProblem_any _ p _ (HP.out.ext (ext_alloc (ext_alloc (ext_refl _) _) _))).mono ?_
    rintro e w1 ⟨rfl, hb1⟩
    obtain ⟨hc1, hf1⟩ := bcell hb1
    have hz1 := hb1.size
    try simp at hz1
    have z1_0 : w.heap.size < w1.heap.size := by omega
    have z1_1 : w.heap.size + 1 < w1.heap.size := by omega
    go_wp2_with fail
    go_ret
    refine ⟨ret_int (by unfold mixErr; rw [if_neg (by simp [C1.out]), if_pos (.inr (.inr c4))]), ?_⟩
    (repeat (first | with_reducible exact ext_refl _ | with_reducible refine ext_alloc ?_ _ | with_reducible refine ext_set ?_ (by omega) _ | with_reducible refine ext_drew ?_ | with_reducible refine ext_step ?_ (by assumption)))
  have c4' : ((m.held.length : Int) != p.tabs.length) = false := by simp; omega
  have d4' : p.tabs.length ≤ m.held.length := by omega
  have C4 := hid c4
  clear c4
  have hme : mixErr p m = if svcErr p.vs m.base m.next ≠ 0 then svcErr p.vs m.base m.next else heldErr p.vs m.base m.next p.tabs m.held := by
    unfold mixErr; rw [if_neg (by simp [C1.out]), if_neg (by simp [C2.out, C3.out, C4.out])]
  have Hme := hid hme
  clear hme
  go_enter Tryd.func70, Tryd.ntmps70
  go_wp2_with fail
  refine (validProblem_any _ p _ (HP.out.ext (ext_alloc (ext_alloc (ext_refl _) _) _))).mono ?_
  rintro e w1 ⟨rfl, hb1⟩
  obtain ⟨hc1, hf1⟩ := bcell hb1
  have hz1 := hb1.size
  try simp at hz1
  have z1_0 : w.heap.size < w1.heap.size := by omega
  have z1_1 : w.heap.size + 1 < w1.heap.size := by omega
  have P1 : Blk w1 w.heap.size 34 #[.slice vA p.vs.length vc, .slice nA p.now.length nc, .slice gA p.tgt.length gc, .slice tA p.tabs.length tc] := by (repeat (first | assumption | (with_reducible refine Blk.new' ?_; simp; done) | with_reducible refine Blk.alloc ?_ _ | with_reducible refine Blk.drew ?_ | with_reducible refine Blk.ext ?_ (by assumption)))
  have M1 : Blk w1 (w.heap.size + 1) 26 #[.slice bA m.base.length bc, .slice xA m.next.length xc, .slice hA m.held.length hc] := by (repeat (first | assumption | (with_reducible refine Blk.new' ?_; simp; done) | with_reducible refine Blk.alloc ?_ _ | with_reducible refine Blk.drew ?_ | with_reducible refine Blk.ext ?_ (by assumption)))
  have hx1 : Below w.heap.size w w1 := by (repeat (first | with_reducible exact ext_refl _ | with_reducible refine ext_alloc ?_ _ | with_reducible refine ext_set ?_ (by omega) _ | with_reducible refine ext_drew ?_ | with_reducible refine ext_step ?_ (by assumption)))
  go_wp2_with fail
  go_loopw [45] (fun iv wr => ∃ k : Nat, k ≤ p.vs.length ∧ iv = .int .i64 k ∧ Hid (svcErr (p.vs.drop k) (m.base.drop k) (m.next.drop k) = svcErr p.vs m.base m.next) ∧ Hid (∀ i (hi : i < k) (hb : i < m.base.length) (hx : i < m.next.length) (hv : i < p.vs.length), 0 ≤ m.base[i] ∧ m.base[i] < p.vs[i] ∧ m.next[i] < p.vs[i]) ∧ Below w.heap.size w wr ∧
    Blk wr w.heap.size 34 #[.slice vA p.vs.length vc, .slice nA p.now.length nc, .slice gA p.tgt.length gc, .slice tA p.tabs.length tc] ∧ Blk wr (w.heap.size + 1) 26 #[.slice bA m.base.length bc, .slice xA m.next.length xc, .slice hA m.held.length hc]) (fun iv _ => p.vs.length - (intOf iv).toNat)
  case atStart => exact ⟨0, Nat.zero_le _, rfl, rfl, fun i hi => absurd hi (by omega), hx1, P1, M1⟩
  case round =>
    obtain ⟨k, hk, rfl, hS, hA0, hB, hP, hM⟩ := hrel
    have cP := hP.cell
    have cM := hM.cell
    by_cases hlt : k < p.vs.length
    · obtain ⟨b0, o0, rfl, hb0, q0⟩ := HV.out.at_int hlt
      obtain ⟨b1, o1, rfl, hb1', q1⟩ := HB.out.at_int (k := k) (by omega)
      obtain ⟨b2, o2, rfl, hb2, q2⟩ := HX.out.at_int (k := k) (by omega)
      have HD := hid (svc_step hlt (show k < m.base.length by omega) (show k < m.next.length by omega))
      have p0 := gr_cell0 hB hb0 q0
      have p1 := gr_cell0 hB hb1' q1
      have p2 := gr_cell0 hB hb2 q2
      clear q0 q1 q2
      generalize ev : p.vs[k] = n0 at p0 HD
      generalize eb : m.base[k] = a0 at p1 HD
      generalize ex : m.next[k] = t0 at p2 HD
      have Ev := hid ev
      have Eb := hid eb
      have Ex := hid ex
      clear ev eb ex
      by_cases g1 : a0 < 0
      · go_wp2_with fail
        go_ret
        exact ⟨ret_int (by rw [Hme.out, if_pos (by rw [← hS.out, HD.out, if_pos (by omega)]; decide), ← hS.out, HD.out, if_pos (by omega)]), hB⟩
      by_cases g2 : n0 ≤ a0
      · go_wp2_with fail
        go_ret
        exact ⟨ret_int (by rw [Hme.out, if_pos (by rw [← hS.out, HD.out, if_pos (by omega)]; decide), ← hS.out, HD.out, if_pos (by omega)]), hB⟩
      by_cases g3 : t0 < -1
      · go_wp2_with fail
        go_ret
        exact ⟨ret_int (by rw [Hme.out, if_pos (by rw [← hS.out, HD.out, if_pos (by omega)]; decide), ← hS.out, HD.out, if_pos (by omega)]), hB⟩
      by_cases g4 : n0 ≤ t0
      · go_wp2_with fail
        go_ret
        exact ⟨ret_int (by rw [Hme.out, if_pos (by rw [← hS.out, HD.out, if_pos (by omega)]; decide), ← hS.out, HD.out, if_pos (by omega)]), hB⟩
      by_cases g5 : a0 = t0
      · have g5' : (a0 == t0) = true := by simpa using g5
        have G5 := hid g5
        clear g5
        go_wp2_with fail
        have k0 := gr_blk hM
        have k1 := gr_cell (Nat.lt_of_lt_of_le hb1' hB.size) p1
        have k2 := gr_cell (Nat.lt_of_lt_of_le hb2 hB.size) p2
        refine wp_region_gr (by kernel_rfl) (by kernel_rfl) ?_
        repeat (go_big_quiet_step (fail))
        refine wpQuiet_nil ?_
        intro w9 hw'
        have hb9 := gr_out hw'
        clear hw'
        go_wp2_with fail
        go_ret
        exact ⟨ret_int (by rw [Hme.out, if_pos (by rw [← hS.out, HD.out, if_neg (by omega), if_pos G5.out]; decide), ← hS.out, HD.out, if_neg (by omega), if_pos G5.out]), ext_step hB hb9⟩
      · have g5' : (a0 == t0) = false := by simpa using g5
        have G5 := hid g5
        clear g5
        go_wp2_with fail
        have k0 := gr_blk hM
        have k1 := gr_cell (Nat.lt_of_lt_of_le hb1' hB.size) p1
        have k2 := gr_cell (Nat.lt_of_lt_of_le hb2 hB.size) p2
        refine wp_region_gr (by kernel_rfl) (by kernel_rfl) ?_
        repeat (go_big_quiet_step (fail))
        refine wpQuiet_nil ?_
        intro w9 hw'
        have hb9 := gr_out hw'
        clear hw'
        go_wp2_with fail
        go_roundw
        case rel =>
          refine ⟨k + 1, by omega, by go_num, by show _ = _; rw [← hS.out, HD.out, if_neg (by omega), if_neg G5.out], ?_, ext_step hB hb9, hP.ext hb9, hM.ext hb9⟩
          show ∀ i, _
          intro i hi hb hx hv
          by_cases hik : i < k
          · exact hA0.out i hik hb hx hv
          · obtain rfl : i = k := by omega
            rw [Ev.out, Eb.out, Ex.out]
            omega
        case measure => simp [intOf]; omega
    · have HR : Hid (svcErr p.vs m.base m.next = 0) := by
        show _ = _; rw [← hS.out, List.drop_eq_nil_of_le (by omega)]; rfl
      clear hS
      go_wp2_with fail
      have HA : Hid (∀ i (hb : i < m.base.length) (hx : i < m.next.length) (hv : i < p.vs.length), 0 ≤ m.base[i] ∧ m.base[i] < p.vs[i] ∧ m.next[i] < p.vs[i]) := by
        show ∀ i, _
        intro i hb hx hv
        exact hA0.out i (by omega) hb hx hv
      clear hA0
      have HZ := hid (vp_zero C1.out)
      go_loopw [97] (fun iv wi => ∃ k : Nat, k ≤ p.tabs.length ∧ iv = .int .i64 k ∧ Hid (heldErr p.vs m.base m.next (p.tabs.drop k) (m.held.drop k) = heldErr p.vs m.base m.next p.tabs m.held) ∧ Below w.heap.size w wi ∧
        Blk wi w.heap.size 34 #[.slice vA p.vs.length vc, .slice nA p.now.length nc, .slice gA p.tgt.length gc, .slice tA p.tabs.length tc] ∧ Blk wi (w.heap.size + 1) 26 #[.slice bA m.base.length bc, .slice xA m.next.length xc, .slice hA m.held.length hc]) (fun iv _ => p.tabs.length - (intOf iv).toNat)
      case atStart => exact ⟨0, Nat.zero_le _, rfl, rfl, hB, hP, hM⟩
      case round =>
        obtain ⟨j, hj, rfl, hS, hBi, hPi, hMi⟩ := hrel
        have zPi := hPi.lt
        have zMi := hMi.lt
        have cPi := hPi.cell
        have cMi := hMi.cell
        by_cases hjl : j < p.tabs.length
        · obtain ⟨b, off, okA, okc, rwA, rwc, rfl, hbl, q0, q1, q2, q3, q4, q5, hm1, hm2, hn1, hn2⟩ := HT.out j hjl
          obtain ⟨b7, o7, rfl, hb7, q7⟩ := HH.out.at_set (k := j) (by omega)
          have HD := hid (held_step (vs := p.vs) (base := m.base) (next := m.next) hjl (show j < m.held.length by omega))
          have HF := hid (tab_zero (HZ.out.2.1 j hjl))
          have p0 := gr_cell0 hBi hbl q0
          have p1 := gr_cell0 hBi hbl q1
          have p2 := gr_cell0 hBi hbl q2
          have p3 := gr_cell0 hBi hbl q3
          have p4 := gr_cell0 hBi hbl q4
          have p5 := gr_cell0 hBi hbl q5
          clear q0 q1 q2 q3 q4 q5 hm1 hm2
          generalize p.tabs[j] = tb at p0 p1 p2 p3 p4 p5 HD HF
          generalize m.held[j] = h0 at q7 HD
          have HBi := hid hBi
          clear hBi
          go_wp2_with fail
          refine (mstored_any _ _ _ _ _ _ _ _ _ _ _).mono ?_
          rintro e w2 ⟨rfl, hb2⟩
          have hz2 := hb2.size
          simp at hz2
          have zs0 : w.heap.size < w2.heap.size := by omega
          have zs1 : w.heap.size + 1 < w2.heap.size := by omega
          have hB2 := ext_step (ext_alloc HBi.out _) hb2
          have hP2 := (hPi.alloc _).ext hb2
          have hM2 := (hMi.alloc _).ext hb2
          have cP2 := hP2.cell
          have cM2 := hM2.cell
          have p7 := gr_cell0 hB2 hb7 q7
          have HB2 := hid hB2
          clear hB2
          by_cases gs : storedB tb.kind = true
          · obtain ⟨f0, f1, f2, f3⟩ := HF.out
            obtain ⟨b8, o8, rfl, hb8, q8⟩ := HV.out.at_int (k := tb.frm.toNat) (by omega)
            have hvr := HZ.out.1 tb.frm.toNat (by omega)
            have hbr := HA.out tb.frm.toNat (by omega) (by omega) (by omega)
            have HK := hid (rfl : heldBad p.vs m.base m.next tb h0 = heldBad p.vs m.base m.next tb h0)
            generalize ev : p.vs[tb.frm.toNat]'(by omega) = n0 at q8 hvr hbr
            generalize eb : m.base[tb.frm.toNat]'(by omega) = a0 at hbr
            generalize ex : m.next[tb.frm.toNat]'(by omega) = t0 at hbr
            have Ev := hid ev
            have Eb := hid eb
            have Ex := hid ex
            clear ev eb ex
            have k8 := gr_cell (Nat.lt_of_lt_of_le hb8 HB2.out.size) (gr_cell0 HB2.out hb8 q8)
            clear q8
            go_wp2_with fail
            have k0 := gr_blk hM2
            have k1 := gr_blk hP2
            have k2 := gr_blk (Blk.ext (Blk.new wr 83 _) hb2)
            refine wp_region_gr (by kernel_rfl) (by kernel_rfl) ?_
            repeat (go_big_quiet_step ((go_at_call 85; with_reducible exact gr_of (mrunning_any _ _ _ _ _ _ _ m.base m.next tb.frm a0 t0 _ (HB.out.ext (ext_step HB2.out (Gr.ok _))) (HX.out.ext (ext_step HB2.out (Gr.ok _))) (by omega) (by omega) (by omega) Eb.out Ex.out (by omega) (by omega) (by omega)))))
            refine wpQuiet_nil ?_
            intro w9 hw'
            have hb9 := gr_out hw'
            clear hw'
            have hP9 := hP2.ext hb9
            have hM9 := hM2.ext hb9
            have cP9 := hP9.cell
            have cM9 := hM9.cell
            have hz9 := hb9.size
            have zn0 : w.heap.size < w9.heap.size := by omega
            have zn1 : w.heap.size + 1 < w9.heap.size := by omega
            have p79 := ext_cell hb9 (Nat.lt_of_lt_of_le hb7 HB2.out.size) p7
            have hk : heldBad p.vs m.base m.next tb h0 = ((bits BinOp.andNot IntKind.u8 (runSet a0 t0) h0 != 0) || (bits BinOp.andNot IntKind.u8 h0 ((2 ^ n0.toNat % 256 - 1) % 256) != 0)) := by
              have hmost : (2 ^ n0.toNat % 256 - 1 : Int) = (2 ^ n0.toNat % 256 - 1) % 256 := by
                rcases (by omega : n0 = 1 ∨ n0 = 2 ∨ n0 = 3 ∨ n0 = 4 ∨ n0 = 5 ∨ n0 = 6) with h | h | h | h | h | h <;> subst h <;> rfl
              unfold heldBad
              rw [if_pos gs, ← hmost]
              simp only [List.getD_eq_getElem?_getD, List.getElem?_eq_getElem (show tb.frm.toNat < p.vs.length by omega), List.getElem?_eq_getElem (show tb.frm.toNat < m.base.length by omega), List.getElem?_eq_getElem (show tb.frm.toNat < m.next.length by omega), Option.getD_some, Ev.out, Eb.out, Ex.out]
            clear HK
            have HK := hid hk
            clear hk
            generalize runSet a0 t0 = ls at HK ⊢
            generalize ((2 ^ n0.toNat % 256 - 1) % 256 : Int) = ms at HK ⊢
            by_cases g1 : (bits BinOp.andNot IntKind.u8 ls h0 != 0) = true
            · go_wp2_with fail
              go_ret
              exact ⟨ret_int (by rw [Hme.out, if_neg (by simp [HR.out]), ← hS.out, HD.out, if_pos (by rw [HK.out, g1]; rfl)]), ext_step HB2.out hb9⟩
            have g1' : (bits BinOp.andNot IntKind.u8 ls h0 != 0) = false := by simpa using g1
            clear g1
            by_cases g2 : (bits BinOp.andNot IntKind.u8 h0 ms != 0) = true
            · go_wp2_with fail
              go_ret
              exact ⟨ret_int (by rw [Hme.out, if_neg (by simp [HR.out]), ← hS.out, HD.out, if_pos (by rw [HK.out, g2]; simp)]), ext_step HB2.out hb9⟩
            have g2' : (bits BinOp.andNot IntKind.u8 h0 ms != 0) = false := by simpa using g2
            clear g2
            go_wp2_with fail
            go_roundw
            case rel => exact ⟨j + 1, by omega, by go_num, by show _ = _; rw [← hS.out, HD.out, if_neg (by rw [HK.out, g1', g2']; decide)], ext_step HB2.out hb9, hP9, hM9⟩
            case measure => simp [intOf]; omega
          · have gs' : storedB tb.kind = false := by simpa using gs
            clear gs
            have hk : heldBad p.vs m.base m.next tb h0 = ((bits BinOp.andNot IntKind.u8 0 h0 != 0) || (bits BinOp.andNot IntKind.u8 h0 0 != 0)) := by unfold heldBad; rw [if_neg (by simp [gs'])]
            have HK := hid hk
            clear hk
            by_cases g1 : (bits BinOp.andNot IntKind.u8 0 h0 != 0) = true
            · go_wp2_with fail
              go_ret
              exact ⟨ret_int (by rw [Hme.out, if_neg (by simp [HR.out]), ← hS.out, HD.out, if_pos (by rw [HK.out, g1]; rfl)]), HB2.out⟩
            have g1' : (bits BinOp.andNot IntKind.u8 0 h0 != 0) = false := by simpa using g1
            clear g1
            by_cases g2 : (bits BinOp.andNot IntKind.u8 h0 0 != 0) = true
            · go_wp2_with fail
              go_ret
              exact ⟨ret_int (by rw [Hme.out, if_neg (by simp [HR.out]), ← hS.out, HD.out, if_pos (by rw [HK.out, g2]; simp)]), HB2.out⟩
            have g2' : (bits BinOp.andNot IntKind.u8 h0 0 != 0) = false := by simpa using g2
            clear g2
            go_wp2_with fail
            go_roundw
            case rel => exact ⟨j + 1, by omega, by go_num, by show _ = _; rw [← hS.out, HD.out, if_neg (by rw [HK.out, g1', g2']; decide)], HB2.out, hP2, hM2⟩
            case measure => simp [intOf]; omega
        · go_wp2_with fail
          go_ret
          exact ⟨ret_int (by rw [Hme.out, if_neg (by simp [HR.out]), ← hS.out, List.drop_eq_nil_of_le (by omega)]; rfl), hBi⟩
end Go.Proofs.YtfpcpjnmffbhgaaDoor
