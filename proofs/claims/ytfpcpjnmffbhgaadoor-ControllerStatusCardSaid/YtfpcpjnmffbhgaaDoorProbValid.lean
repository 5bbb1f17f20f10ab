/-
  The contract of fleet.ValidProblem: it returns the error of a problem, and changes nothing that was there.
-/
import Derived.Test.YtfpcpjnmffbhgaaDoorProbTable
namespace Go.Proofs.YtfpcpjnmffbhgaaDoor
open Go.RowKit
set_option linter.unusedSimpArgs false
set_option linter.unusedVariables false
set_option maxHeartbeats 4000000
set_option maxRecDepth 100000
theorem rng_step {vs now tgt : List Int} {k : Nat} (h0 : k < vs.length) (h1 : k < now.length) (h2 : k < tgt.length) :
    rngOK (vs.drop k) (now.drop k) (tgt.drop k) = ((decide (1 ≤ vs[k] ∧ vs[k] ≤ 6) && withinB now[k] vs[k] && withinB tgt[k] vs[k]) && rngOK (vs.drop (k + 1)) (now.drop (k + 1)) (tgt.drop (k + 1))) := by
  rw [drop_cons h0, drop_cons h1, drop_cons h2]; rfl
theorem tabs_step {vs : List Int} {ts : List Tab} {k : Nat} (h : k < ts.length) : tabsErr vs (ts.drop k) = if tabErr vs ts[k] ≠ 0 then tabErr vs ts[k] else tabsErr vs (ts.drop (k + 1)) := by
  rw [drop_cons h]; rfl
theorem validProblem_any (v : Value) (p : Prob) (w : World) (hp : ProbAt w v p) :
    Calls Tryd.prog 24 #[v] w fun e w' => e = .returned (.int .i64 (vpErr p)) ∧ Below w.heap.size w w' := by
  obtain ⟨vA, vc, nA, nc, gA, gc, tA, tc, rfl, hv, hn, hg, ht, l0, l1, l2, l3⟩ := hp
  have HV := hid hv
  have HN := hid hn
  have HG := hid hg
  have HT := hid ht
  clear hv hn hg ht
  by_cases c1 : 6 < p.vs.length
  · go_enter Tryd.func24, Tryd.ntmps24
    go_wp2_with fail
    go_ret
    refine ⟨ret_int (by unfold vpErr; rw [if_pos (Or.inl c1)]), ?_⟩
    (repeat (first | with_reducible exact ext_refl _ | with_reducible refine ext_alloc ?_ _ | with_reducible refine ext_set ?_ (by omega) _ | with_reducible refine ext_drew ?_ | with_reducible refine ext_step ?_ (by assumption)))
  by_cases c2 : 12 < p.tabs.length
  · go_enter Tryd.func24, Tryd.ntmps24
    go_wp2_with fail
    go_ret
    refine ⟨ret_int (by unfold vpErr; rw [if_pos (Or.inr c2)]), ?_⟩
    (repeat (first | with_reducible exact ext_refl _ | with_reducible refine ext_alloc ?_ _ | with_reducible refine ext_set ?_ (by omega) _ | with_reducible refine ext_drew ?_ | with_reducible refine ext_step ?_ (by assumption)))
  by_cases c3 : p.now.length = p.vs.length
  rotate_left
  · have c3' : ((p.now.length : Int) != p.vs.length) = true := by simp; omega
    go_enter Tryd.func24, Tryd.ntmps24
    go_wp2_with fail
    go_ret
    refine ⟨ret_int (by unfold vpErr; rw [if_neg (by omega), if_pos (Or.inl c3)]), ?_⟩
    (repeat (first | with_reducible exact ext_refl _ | with_reducible refine ext_alloc ?_ _ | with_reducible refine ext_set ?_ (by omega) _ | with_reducible refine ext_drew ?_ | with_reducible refine ext_step ?_ (by assumption)))
  by_cases c4 : p.tgt.length = p.vs.length
  rotate_left
  · have c3' : ((p.now.length : Int) != p.vs.length) = false := by simp; omega
    have c4' : ((p.tgt.length : Int) != p.vs.length) = true := by simp; omega
    have C3 := hid c3
    clear c3
    go_enter Tryd.func24, Tryd.ntmps24
    go_wp2_with fail
    go_ret
    refine ⟨ret_int (by unfold vpErr; rw [if_neg (by omega), if_pos (Or.inr c4)]), ?_⟩
    (repeat (first | with_reducible exact ext_refl _ | with_reducible refine ext_alloc ?_ _ | with_reducible refine ext_set ?_ (by omega) _ | with_reducible refine ext_drew ?_ | with_reducible refine ext_step ?_ (by assumption)))
  have c3' : ((p.now.length : Int) != p.vs.length) = false := by simp; omega
  have c4' : ((p.tgt.length : Int) != p.vs.length) = false := by simp; omega
  have d3 : p.vs.length ≤ p.now.length := by omega
  have d4 : p.vs.length ≤ p.tgt.length := by omega
  have hvp : vpErr p = if rngOK p.vs p.now p.tgt = false then 7 else tabsErr p.vs p.tabs := by
    unfold vpErr; rw [if_neg (by omega), if_neg (by omega)]
  have Hvp := hid hvp
  have C3 := hid c3
  have C4 := hid c4
  clear hvp c3 c4
  go_enter Tryd.func24, Tryd.ntmps24
  go_wp2_with fail
  go_loopw [35] (fun iv wr => ∃ k : Nat, k ≤ p.vs.length ∧ iv = .int .i64 k ∧ Hid (rngOK (p.vs.drop k) (p.now.drop k) (p.tgt.drop k) = rngOK p.vs p.now p.tgt) ∧ Below w.heap.size w wr ∧
    Blk wr w.heap.size 34 #[.slice vA p.vs.length vc, .slice nA p.now.length nc, .slice gA p.tgt.length gc, .slice tA p.tabs.length tc]) (fun iv _ => p.vs.length - (intOf iv).toNat)
  case atStart => exact ⟨0, Nat.zero_le _, rfl, rfl, ext_alloc (ext_refl _) _, Blk.new _ _ _⟩
  case round =>
    obtain ⟨k, hk, rfl, hS, hB, hP⟩ := hrel
    have zP := hP.lt
    have cP := hP.cell
    by_cases hlt : k < p.vs.length
    · obtain ⟨b0, o0, rfl, hb0, q0⟩ := HV.out.at_int hlt
      obtain ⟨b1, o1, rfl, hb1, q1⟩ := HN.out.at_int (k := k) (by omega)
      obtain ⟨b2, o2, rfl, hb2, q2⟩ := HG.out.at_int (k := k) (by omega)
      have HD := hid (rng_step hlt (show k < p.now.length by omega) (show k < p.tgt.length by omega))
      have p0 := gr_cell0 hB hb0 q0
      have p1 := gr_cell0 hB hb1 q1
      have p2 := gr_cell0 hB hb2 q2
      clear q0 q1 q2
      generalize p.vs[k] = n0 at p0 HD
      generalize p.now[k] = a0 at p1 HD
      generalize p.tgt[k] = t0 at p2 HD
      by_cases g1 : n0 < 1
      · go_wp2_with fail
        go_ret
        exact ⟨ret_int (by rw [Hvp.out, if_pos (by rw [← hS.out, HD.out]; simp; omega)]), hB⟩
      by_cases g2 : 6 < n0
      · go_wp2_with fail
        go_ret
        exact ⟨ret_int (by rw [Hvp.out, if_pos (by rw [← hS.out, HD.out]; simp; omega)]), hB⟩
      by_cases g3 : withinB a0 n0 = true
      rotate_left
      · have g3' : withinB a0 n0 = false := by simpa using g3
        clear g3
        go_wp2_with fail
        refine (within_any _ _ _).mono ?_
        rintro e w1 ⟨rfl, hb1⟩
        obtain ⟨hc1, hf1⟩ := bcell hb1
        have hz1 := hb1.size
        try simp at hz1
        have z1_0 : w.heap.size < w1.heap.size := by omega
        go_wp2_with fail
        go_ret
        exact ⟨ret_int (by rw [Hvp.out, if_pos (by rw [← hS.out, HD.out]; simp [g3'])]), ext_step hB hb1⟩
      have P1 := hid p1
      have P2 := hid p2
      go_wp2_with fail
      refine (within_any _ _ _).mono ?_
      rintro e w3 ⟨rfl, hb3⟩
      obtain ⟨hc3, hf3⟩ := bcell hb3
      have hz3 := hb3.size
      try simp at hz3
      have z3_0 : w.heap.size < w3.heap.size := by omega
      have cP3 := (hP.ext hb3).cell
      have p2' := ext_cell hb3 (Nat.lt_of_lt_of_le hb2 hB.size) P2.out
      by_cases g4 : withinB t0 n0 = true
      rotate_left
      · have g4' : withinB t0 n0 = false := by simpa using g4
        clear g4
        go_wp2_with fail
        refine (within_any _ _ _).mono ?_
        rintro e w4 ⟨rfl, hb4⟩
        obtain ⟨hc4, hf4⟩ := bcell hb4
        have hz4 := hb4.size
        try simp at hz4
        have z4_0 : w.heap.size < w4.heap.size := by omega
        go_wp2_with fail
        go_ret
        exact ⟨ret_int (by rw [Hvp.out, if_pos (by rw [← hS.out, HD.out]; simp [g4'])]), ext_step (ext_step hB hb3) hb4⟩
      go_wp2_with fail
      refine (within_any _ _ _).mono ?_
      rintro e w4 ⟨rfl, hb4⟩
      obtain ⟨hc4, hf4⟩ := bcell hb4
      have hz4 := hb4.size
      try simp at hz4
      have z4_0 : w.heap.size < w4.heap.size := by omega
      go_wp2_with fail
      go_roundw
      case rel => exact ⟨k + 1, by omega, by go_num, by show _ = _; rw [← hS.out, HD.out]; simp [g3, g4]; omega, ext_step (ext_step hB hb3) hb4, (hP.ext hb3).ext hb4⟩
      case measure => simp [intOf]; omega
    · have HR : Hid (rngOK p.vs p.now p.tgt = true) := by
        show _ = _; rw [← hS.out, List.drop_eq_nil_of_le (by omega)]; rfl
      clear hS
      go_wp2_with fail
      obtain ⟨wo, hwo⟩ : ∃ wo : World, wo = wr := ⟨_, rfl⟩
      clear hwo
      go_loopw [70] (fun iv wi => ∃ k : Nat, k ≤ p.tabs.length ∧ iv = .int .i64 k ∧ Hid (tabsErr p.vs (p.tabs.drop k) = tabsErr p.vs p.tabs) ∧ Below w.heap.size w wi ∧ Blk wi w.heap.size 34 #[.slice vA p.vs.length vc, .slice nA p.now.length nc, .slice gA p.tgt.length gc, .slice tA p.tabs.length tc]) (fun iv _ => p.tabs.length - (intOf iv).toNat)
      case atStart => exact ⟨0, Nat.zero_le _, rfl, rfl, hB, hP⟩
      case round =>
        obtain ⟨j, hj, rfl, hS, hBi, hPi⟩ := hrel
        have zPi := hPi.lt
        have cPi := hPi.cell
        by_cases hjl : j < p.tabs.length
        · obtain ⟨b, off, okA, okc, rwA, rwc, rfl, hbl, q0, q1, q2, q3, q4, q5, hm1, hm2, hn1, hn2⟩ := HT.out j hjl
          have HD := hid (tabs_step (vs := p.vs) hjl)
          have p0 := gr_cell0 hBi hbl q0
          have p1 := gr_cell0 hBi hbl q1
          have p2 := gr_cell0 hBi hbl q2
          have p3 := gr_cell0 hBi hbl q3
          have p4 := gr_cell0 hBi hbl q4
          have p5 := gr_cell0 hBi hbl q5
          have HM1 := hid hm1
          have HM2 := hid hm2
          clear q0 q1 q2 q3 q4 q5 hm1 hm2
          generalize p.tabs[j] = tb at p0 p1 p2 p3 p4 p5 HM1 HM2 HD hn1 hn2
          have HBi := hid hBi
          clear hBi
          go_wp2_with fail
          refine (table_any _ _ _ _ _ _ _ _ _ _ _ _ _ _ _ _ tb _ (HV.out.ext (ext_alloc HBi.out _)) (HM1.out.ext (ext_alloc HBi.out _)) (HM2.out.ext (ext_alloc HBi.out _)) hn1 hn2 l0).mono ?_
          rintro e w2 ⟨rfl, hb2⟩
          by_cases ht : tabErr p.vs tb = 0
          · have ht' : (tabErr p.vs tb != 0) = false := by simpa using ht
            have Ht := hid ht
            clear ht
            go_wp2_with fail
            go_roundw
            case rel => exact ⟨j + 1, by omega, by go_num, by show _ = _; rw [← hS.out, HD.out, if_neg (by simp [Ht.out])], ext_step (ext_alloc HBi.out _) hb2, (hPi.alloc _).ext hb2⟩
            case measure => simp [intOf]; omega
          · have ht' : (tabErr p.vs tb != 0) = true := by simpa using ht
            have Ht := hid ht
            clear ht
            go_wp2_with fail
            go_ret
            exact ⟨ret_int (by rw [Hvp.out, if_neg (by simp [HR.out]), ← hS.out, HD.out, if_pos Ht.out]), ext_step (ext_alloc HBi.out _) hb2⟩
        · go_wp2_with fail
          go_ret
          exact ⟨ret_int (by rw [Hvp.out, if_neg (by simp [HR.out]), ← hS.out, List.drop_eq_nil_of_le (by omega)]; rfl), hBi⟩
end Go.Proofs.YtfpcpjnmffbhgaaDoor
