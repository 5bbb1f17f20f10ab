/-
  Contracts of sheaveref35.ValidProblem and what it calls: the same plain functions.
  The contract of sheaveref35.table: it returns the error of a table (the same plain function as fleet.table), and changes nothing that was there.
  The contract of sheaveref35.ValidProblem: the same plain function as fleet.ValidProblem.
-/
import Derived.Test.YtliooohflhogpaaGreatDoorGh
namespace Go.Proofs.YtliooohflhogpaaGreatDoor
open Go.RowKit
set_option linter.unusedSimpArgs false
set_option linter.unusedVariables false
set_option maxHeartbeats 4000000
set_option maxRecDepth 100000
abbrev tv (t : Tab) (okA rwA : Option Addr) (okc rwc : Nat) : Value := .agg #[.int .i64 t.kind, .int .i64 t.frm, .int .i64 t.tto, .bool t.aware, .slice okA t.ok.length okc, .slice rwA t.rw.length rwc]
theorem rstored_any (k f o : Int) (aw : Bool) (okA rwA : Option Addr) (okn okc rwn rwc : Nat) (w : World) : Calls Tryz.prog 40 #[.agg #[.int .i64 k, .int .i64 f, .int .i64 o, .bool aw, .slice okA okn okc, .slice rwA rwn rwc]] w fun e w' => e = .returned (.bool (storedB k)) ∧ Below w.heap.size w w' := by
  go_enter Tryz.func40, Tryz.ntmps40
  go_wp2
  all_goals go_ret
  all_goals refine ⟨ret_bool ?_, ext_alloc (ext_refl _) _⟩
  all_goals (rw [Bool.eq_iff_iff]; simp_all [storedB]; try omega)
theorem square_any (A : Option Addr) (c : Nat) (l : List (List Bool)) (n m : Int) (w : World) (hl : Mat w A l) (hn : l.length ≤ 4611686018427387904) :
    Calls Tryz.prog 51 #[.slice A l.length c, .int .i64 n, .int .i64 m] w fun e w' => e = .returned (.bool (sq l n m)) ∧ Below w.heap.size w w' := by
  have HM := hid hl
  clear hl
  by_cases hq : (l.length : Int) = n
  rotate_left
  · have hq' : ((l.length : Int) != n) = true := by simpa using hq
    go_enter Tryz.func51, Tryz.ntmps51
    go_wp2_with fail
    go_ret
    exact ⟨ret_bool (by simp [sq, hq]), ext_refl _⟩
  have hq' : ((l.length : Int) != n) = false := by simpa using hq
  have q1 : (l.length : Int) ≤ n := by omega
  have q2 : n ≤ (l.length : Int) := by omega
  have Hq := hid hq
  clear hq
  go_enter Tryz.func51, Tryz.ntmps51
  go_wp2_with fail
  go_loopw [7] (fun iv wr => ∃ k : Nat, k ≤ l.length ∧ iv = .int .i64 k ∧ Hid (sqRows (l.drop k) m = sqRows l m) ∧ Below w.heap.size w wr) (fun iv _ => l.length - (intOf iv).toNat)
  case atStart => exact ⟨0, Nat.zero_le _, rfl, rfl, ext_refl _⟩
  case round =>
    obtain ⟨k, hk, rfl, hS, hB⟩ := hrel
    by_cases hlt : k < l.length
    · obtain ⟨b, off, rA, rc, rfl, hbl, q0, _, _⟩ := HM.out k hlt
      have p0 := gr_cell0 hB hbl q0
      clear q0
      have HD : Hid (sqRows (l.drop k) m = ((((l[k]).length : Int) == m) && sqRows (l.drop (k + 1)) m)) := by
        show _ = _; rw [drop_cons hlt]; rfl
      by_cases hr : ((l[k]).length : Int) = m
      · have hr' : (((l[k]).length : Int) != m) = false := by simpa using hr
        have Hr := hid hr
        clear hr
        go_wp2_with fail
        go_roundw
        case rel => exact ⟨k + 1, by omega, by go_num, by show _ = _; rw [← hS.out, HD.out, Hr.out]; simp, hB⟩
        case measure => simp [intOf]; omega
      · have hr' : (((l[k]).length : Int) != m) = true := by simpa using hr
        have Hr := hid hr
        clear hr
        go_wp2_with fail
        go_ret
        exact ⟨ret_bool (by unfold sq; rw [← hS.out, HD.out]; simp [Hr.out]), hB⟩
    · go_wp2_with fail
      go_ret
      refine ⟨ret_bool ?_, hB⟩
      unfold sq
      rw [← hS.out, List.drop_eq_nil_of_le (by omega)]
      simp [sqRows, Hq.out]
theorem square_eq (A : Option Addr) (c : Nat) (l : List (List Bool)) (n m : Int) (B : Bool) (w : World) (hl : Mat w A l) (hn : l.length ≤ 4611686018427387904) (hB : sq l n m = B) :
    Calls Tryz.prog 51 #[.slice A l.length c, .int .i64 n, .int .i64 m] w fun e w' => e = .returned (.bool B) ∧ Below w.heap.size w w' := by
  rw [← hB]; exact square_any A c l n m w hl hn
end Go.Proofs.YtliooohflhogpaaGreatDoor
namespace Go.Proofs.YtliooohflhogpaaGreatDoor
open Go.RowKit
set_option linter.unusedSimpArgs false
set_option linter.unusedVariables false
set_option maxHeartbeats 1500000
set_option maxRecDepth 100000
theorem rtable_any (vA nA gA tA okA rwA : Option Addr) (vc nn nc gn gc tn tc okc rwc : Nat) (vs : List Int) (t : Tab) (w : World) (hv : Cells w vA (ints vs)) (h1 : Mat w okA t.ok) (h2 : Mat w rwA t.rw)
    (hn1 : t.ok.length ≤ 4611686018427387904) (hn2 : t.rw.length ≤ 4611686018427387904) (hnv : vs.length ≤ 4611686018427387904) :
    Calls Tryz.prog 25 #[.agg #[.slice vA vs.length vc, .slice nA nn nc, .slice gA gn gc, .slice tA tn tc], tv t okA rwA okc rwc] w
      fun e w' => e = .returned (.int .i64 (tabErr vs t)) ∧ Below w.heap.size w w' := by
  have HV := hid hv
  have HM1 := hid h1
  have HM2 := hid h2
  clear hv h1 h2
  have st1 : storedB t.kind = true ∨ storedB t.kind = false := by cases storedB t.kind <;> simp
  by_cases k1 : t.kind < 1
  · have HE : Hid (tabErr vs t = 1) := by show _ = _; unfold tabErr; rw [if_pos (by simp [kindOK]; omega)]
    go_enter Tryz.func25, Tryz.ntmps25
    go_wp2_with fail
    go_ret
    refine ⟨ret_int HE.out.symm, ?_⟩
    (repeat (first | with_reducible exact ext_refl _ | with_reducible refine ext_alloc ?_ _ | with_reducible refine ext_set ?_ (by omega) _ | with_reducible refine ext_drew ?_ | with_reducible refine ext_step ?_ (by assumption)))
  by_cases k2 : 4 < t.kind
  · have HE : Hid (tabErr vs t = 1) := by show _ = _; unfold tabErr; rw [if_pos (by simp [kindOK]; omega)]
    go_enter Tryz.func25, Tryz.ntmps25
    go_wp2_with fail
    go_ret
    refine ⟨ret_int HE.out.symm, ?_⟩
    (repeat (first | with_reducible exact ext_refl _ | with_reducible refine ext_alloc ?_ _ | with_reducible refine ext_set ?_ (by omega) _ | with_reducible refine ext_drew ?_ | with_reducible refine ext_step ?_ (by assumption)))
  by_cases k3 : t.aware = true ∧ storedB t.kind = true
  · obtain ⟨k4, k5⟩ := k3
    have HE : Hid (tabErr vs t = 1) := by
      show _ = _; unfold tabErr; rw [if_pos (by simp [kindOK, k4]; simp [storedB] at k5; omega)]
    go_enter Tryz.func25, Tryz.ntmps25
    go_wp2_with fail
    refine (rstored_any _ _ _ _ _ _ _ _ _ _ _).mono ?_
    rintro e w1 ⟨rfl, hb1⟩
    obtain ⟨hc1, hf1⟩ := bcell hb1
    have hz1 := hb1.size
    try simp at hz1
    have z1_0 : w.heap.size < w1.heap.size := by omega
    have z1_1 : w.heap.size + 1 < w1.heap.size := by omega
    go_wp2_with fail
    go_ret
    refine ⟨ret_int HE.out.symm, ?_⟩
    (repeat (first | with_reducible exact ext_refl _ | with_reducible refine ext_alloc ?_ _ | with_reducible refine ext_set ?_ (by omega) _ | with_reducible refine ext_drew ?_ | with_reducible refine ext_step ?_ (by assumption)))
  have hk : kindOK t.kind t.aware = true := by
    simp only [kindOK, decide_eq_true_eq]; simp only [storedB, decide_eq_true_eq] at k3; exact ⟨by omega, by omega, k3⟩
  have HK := hid hk
  have K3 := hid k3
  clear hk k3
  by_cases haw : t.aware = true
  · have hst : storedB t.kind = false := by
      cases h : storedB t.kind with
      | false => rfl
      | true => exact absurd ⟨haw, h⟩ K3.out
    clear st1
    by_cases f0 : t.frm < 0
    · have HE : Hid (tabErr vs t = 4) := by
        show _ = _; unfold tabErr; rw [if_neg (by simp [HK.out]), if_pos (by simp [withinB]; omega)]
      go_enter Tryz.func25, Tryz.ntmps25
      go_wp2_with fail
      refine (rstored_any _ _ _ _ _ _ _ _ _ _ _).mono ?_
      rintro e w1 ⟨rfl, hb1⟩
      obtain ⟨hc1, hf1⟩ := bcell hb1
      have hz1 := hb1.size
      try simp at hz1
      have z1_0 : w.heap.size < w1.heap.size := by omega
      have z1_1 : w.heap.size + 1 < w1.heap.size := by omega
      go_wp2_with fail
      go_ret
      refine ⟨ret_int HE.out.symm, ?_⟩
      (repeat (first | with_reducible exact ext_refl _ | with_reducible refine ext_alloc ?_ _ | with_reducible refine ext_set ?_ (by omega) _ | with_reducible refine ext_drew ?_ | with_reducible refine ext_step ?_ (by assumption)))

    by_cases f1 : (vs.length : Int) ≤ t.frm
    · have HE : Hid (tabErr vs t = 4) := by
        show _ = _; unfold tabErr; rw [if_neg (by simp [HK.out]), if_pos (by simp [withinB]; omega)]
      go_enter Tryz.func25, Tryz.ntmps25
      go_wp2_with fail
      refine (rstored_any _ _ _ _ _ _ _ _ _ _ _).mono ?_
      rintro e w1 ⟨rfl, hb1⟩
      obtain ⟨hc1, hf1⟩ := bcell hb1
      have hz1 := hb1.size
      try simp at hz1
      have z1_0 : w.heap.size < w1.heap.size := by omega
      have z1_1 : w.heap.size + 1 < w1.heap.size := by omega
      go_wp2_with fail
      go_ret
      refine ⟨ret_int HE.out.symm, ?_⟩
      (repeat (first | with_reducible exact ext_refl _ | with_reducible refine ext_alloc ?_ _ | with_reducible refine ext_set ?_ (by omega) _ | with_reducible refine ext_drew ?_ | with_reducible refine ext_step ?_ (by assumption)))

    by_cases t0 : t.tto < 0
    · have HE : Hid (tabErr vs t = 4) := by
        show _ = _; unfold tabErr; rw [if_neg (by simp [HK.out]), if_pos (by simp [withinB]; omega)]
      go_enter Tryz.func25, Tryz.ntmps25
      go_wp2_with fail
      refine (rstored_any _ _ _ _ _ _ _ _ _ _ _).mono ?_
      rintro e w1 ⟨rfl, hb1⟩
      obtain ⟨hc1, hf1⟩ := bcell hb1
      have hz1 := hb1.size
      try simp at hz1
      have z1_0 : w.heap.size < w1.heap.size := by omega
      have z1_1 : w.heap.size + 1 < w1.heap.size := by omega
      go_wp2_with fail
      go_ret
      refine ⟨ret_int HE.out.symm, ?_⟩
      (repeat (first | with_reducible exact ext_refl _ | with_reducible refine ext_alloc ?_ _ | with_reducible refine ext_set ?_ (by omega) _ | with_reducible refine ext_drew ?_ | with_reducible refine ext_step ?_ (by assumption)))

    by_cases t1 : (vs.length : Int) ≤ t.tto
    · have HE : Hid (tabErr vs t = 4) := by
        show _ = _; unfold tabErr; rw [if_neg (by simp [HK.out]), if_pos (by simp [withinB]; omega)]
      go_enter Tryz.func25, Tryz.ntmps25
      go_wp2_with fail
      refine (rstored_any _ _ _ _ _ _ _ _ _ _ _).mono ?_
      rintro e w1 ⟨rfl, hb1⟩
      obtain ⟨hc1, hf1⟩ := bcell hb1
      have hz1 := hb1.size
      try simp at hz1
      have z1_0 : w.heap.size < w1.heap.size := by omega
      have z1_1 : w.heap.size + 1 < w1.heap.size := by omega
      go_wp2_with fail
      go_ret
      refine ⟨ret_int HE.out.symm, ?_⟩
      (repeat (first | with_reducible exact ext_refl _ | with_reducible refine ext_alloc ?_ _ | with_reducible refine ext_set ?_ (by omega) _ | with_reducible refine ext_drew ?_ | with_reducible refine ext_step ?_ (by assumption)))

    obtain ⟨vb, voff, rfl, hvb, hfc⟩ := HV.out.at_int (k := t.frm.toNat) (by omega)
    obtain ⟨_, _, hvv, _, htc⟩ := HV.out.at_int (k := t.tto.toNat) (by omega)
    injection hvv with hvv
    injection hvv with e1 e2
    subst e1 e2
    have htab : tabErr vs t = if sq t.ok vs[t.frm.toNat] vs[t.tto.toNat] = false ∨ (t.kind = 4 ∧ sq t.rw vs[t.frm.toNat] vs[t.frm.toNat] = false) ∨ (¬ t.kind = 4 ∧ 0 < t.rw.length) then 6 else if diagFrom t.rw 0 = false then 1 else 0 := by
      unfold tabErr
      rw [if_neg (by simp [HK.out]), if_neg (by simp [withinB]; omega), List.getD_eq_getElem?_getD, List.getD_eq_getElem?_getD, List.getElem?_eq_getElem (by omega), List.getElem?_eq_getElem (by omega)]
      rfl
    generalize vs[t.frm.toNat] = vfr at hfc htab
    generalize vs[t.tto.toNat] = vto at htc htab
    have Htab := hid htab
    clear htab
    by_cases hs : sq t.ok vfr vto = true
    rotate_left
    · have hs : sq t.ok vfr vto = false := by simpa using hs
      go_enter Tryz.func25, Tryz.ntmps25
      go_wp2_with fail
      refine (rstored_any _ _ _ _ _ _ _ _ _ _ _).mono ?_
      rintro e w1 ⟨rfl, hb1⟩
      obtain ⟨hc1, hf1⟩ := bcell hb1
      have hz1 := hb1.size
      try simp at hz1
      have z1_0 : w.heap.size < w1.heap.size := by omega
      have z1_1 : w.heap.size + 1 < w1.heap.size := by omega
      go_wp2_with fail
      have B0 : Blk w1 w.heap.size 25 #[.slice (some ⟨vb, voff, none⟩) vs.length vc, .slice nA nn nc, .slice gA gn gc, .slice tA tn tc] := by (repeat (first | assumption | (with_reducible refine Blk.new' ?_; simp; done) | with_reducible refine Blk.alloc ?_ _ | with_reducible refine Blk.drew ?_ | with_reducible refine Blk.ext ?_ (by assumption)))
      have B1 : Blk w1 (w.heap.size + 1) 53 #[.int .i64 t.kind, .int .i64 t.frm, .int .i64 t.tto, .bool true, .slice okA t.ok.length okc, .slice rwA t.rw.length rwc] := by (repeat (first | assumption | (with_reducible refine Blk.new' ?_; simp; done) | with_reducible refine Blk.alloc ?_ _ | with_reducible refine Blk.drew ?_ | with_reducible refine Blk.ext ?_ (by assumption)))
      have hx : Below w.heap.size w w1 := by (repeat (first | with_reducible exact ext_refl _ | with_reducible refine ext_alloc ?_ _ | with_reducible refine ext_set ?_ (by omega) _ | with_reducible refine ext_drew ?_ | with_reducible refine ext_step ?_ (by assumption)))
      have k0 := gr_blk B0
      have k1' := gr_blk B1
      have k4 := gr_cell (Nat.lt_of_lt_of_le hvb hx.size) (gr_cell0 hx hvb htc)
      have k5 := gr_cell (Nat.lt_of_lt_of_le hvb hx.size) (gr_cell0 hx hvb hfc)
      refine wp_region_gr (by kernel_rfl) (by kernel_rfl) ?_
      repeat (go_big_quiet_step ((go_at_call 51; with_reducible exact gr_of (square_eq okA _ _ _ _ false _ (HM1.out.ext (ext_step hx (Gr.ok _))) hn1 hs))))
      refine wpQuiet_nil ?_
      intro w2 hw'
      have hb2 := gr_out hw'
      clear hw'
      have hx2 : Below w.heap.size w w2 := ext_step hx hb2
      have B2 := B1.ext hb2
      have B20 := B0.ext hb2
      have c2 := B2.cell
      clear k0 k1' k4 k5
      go_wp2_with fail
      go_ret
      exact ⟨ret_int (by rw [Htab.out, if_pos (.inl hs)]), hx2⟩
    by_cases h4 : t.kind = 4
    rotate_left
    · have h4' : (t.kind != 4) = true := by simpa using h4
      have H4 := hid h4
      clear h4
      by_cases hr : t.rw.length = 0
      · have hr' : ((t.rw.length : Int) != 0) = false := by simp; exact List.length_eq_zero_iff.1 hr
        have HR := hid hr
        clear hr
        go_enter Tryz.func25, Tryz.ntmps25
        go_wp2_with fail
        refine (rstored_any _ _ _ _ _ _ _ _ _ _ _).mono ?_
        rintro e w1 ⟨rfl, hb1⟩
        obtain ⟨hc1, hf1⟩ := bcell hb1
        have hz1 := hb1.size
        try simp at hz1
        have z1_0 : w.heap.size < w1.heap.size := by omega
        have z1_1 : w.heap.size + 1 < w1.heap.size := by omega
        go_wp2_with fail
        have B0 : Blk w1 w.heap.size 25 #[.slice (some ⟨vb, voff, none⟩) vs.length vc, .slice nA nn nc, .slice gA gn gc, .slice tA tn tc] := by (repeat (first | assumption | (with_reducible refine Blk.new' ?_; simp; done) | with_reducible refine Blk.alloc ?_ _ | with_reducible refine Blk.drew ?_ | with_reducible refine Blk.ext ?_ (by assumption)))
        have B1 : Blk w1 (w.heap.size + 1) 53 #[.int .i64 t.kind, .int .i64 t.frm, .int .i64 t.tto, .bool true, .slice okA t.ok.length okc, .slice rwA t.rw.length rwc] := by (repeat (first | assumption | (with_reducible refine Blk.new' ?_; simp; done) | with_reducible refine Blk.alloc ?_ _ | with_reducible refine Blk.drew ?_ | with_reducible refine Blk.ext ?_ (by assumption)))
        have hx : Below w.heap.size w w1 := by (repeat (first | with_reducible exact ext_refl _ | with_reducible refine ext_alloc ?_ _ | with_reducible refine ext_set ?_ (by omega) _ | with_reducible refine ext_drew ?_ | with_reducible refine ext_step ?_ (by assumption)))
        have k0 := gr_blk B0
        have k1' := gr_blk B1
        have k4 := gr_cell (Nat.lt_of_lt_of_le hvb hx.size) (gr_cell0 hx hvb htc)
        have k5 := gr_cell (Nat.lt_of_lt_of_le hvb hx.size) (gr_cell0 hx hvb hfc)
        refine wp_region_gr (by kernel_rfl) (by kernel_rfl) ?_
        repeat (go_big_quiet_step ((go_at_call 51; with_reducible exact gr_of (square_eq okA _ _ _ _ true _ (HM1.out.ext (ext_step hx (Gr.ok _))) hn1 hs))))
        refine wpQuiet_nil ?_
        intro w2 hw'
        have hb2 := gr_out hw'
        clear hw'
        have hx2 : Below w.heap.size w w2 := ext_step hx hb2
        have B2 := B1.ext hb2
        have B20 := B0.ext hb2
        have c2 := B2.cell
        clear k0 k1' k4 k5
        go_wp2_with fail
        go_ret
        exact ⟨ret_int (by rw [Htab.out, if_neg (by simp [hs, H4.out]; exact List.length_eq_zero_iff.1 HR.out), if_neg (by rw [List.length_eq_zero_iff.1 HR.out]; simp [diagFrom])]), hx2⟩
      · have hr' : ((t.rw.length : Int) != 0) = true := by simp; intro h; exact hr (by rw [h]; rfl)
        have HR := hid hr
        clear hr
        go_enter Tryz.func25, Tryz.ntmps25
        go_wp2_with fail
        refine (rstored_any _ _ _ _ _ _ _ _ _ _ _).mono ?_
        rintro e w1 ⟨rfl, hb1⟩
        obtain ⟨hc1, hf1⟩ := bcell hb1
        have hz1 := hb1.size
        try simp at hz1
        have z1_0 : w.heap.size < w1.heap.size := by omega
        have z1_1 : w.heap.size + 1 < w1.heap.size := by omega
        go_wp2_with fail
        have B0 : Blk w1 w.heap.size 25 #[.slice (some ⟨vb, voff, none⟩) vs.length vc, .slice nA nn nc, .slice gA gn gc, .slice tA tn tc] := by (repeat (first | assumption | (with_reducible refine Blk.new' ?_; simp; done) | with_reducible refine Blk.alloc ?_ _ | with_reducible refine Blk.drew ?_ | with_reducible refine Blk.ext ?_ (by assumption)))
        have B1 : Blk w1 (w.heap.size + 1) 53 #[.int .i64 t.kind, .int .i64 t.frm, .int .i64 t.tto, .bool true, .slice okA t.ok.length okc, .slice rwA t.rw.length rwc] := by (repeat (first | assumption | (with_reducible refine Blk.new' ?_; simp; done) | with_reducible refine Blk.alloc ?_ _ | with_reducible refine Blk.drew ?_ | with_reducible refine Blk.ext ?_ (by assumption)))
        have hx : Below w.heap.size w w1 := by (repeat (first | with_reducible exact ext_refl _ | with_reducible refine ext_alloc ?_ _ | with_reducible refine ext_set ?_ (by omega) _ | with_reducible refine ext_drew ?_ | with_reducible refine ext_step ?_ (by assumption)))
        have k0 := gr_blk B0
        have k1' := gr_blk B1
        have k4 := gr_cell (Nat.lt_of_lt_of_le hvb hx.size) (gr_cell0 hx hvb htc)
        have k5 := gr_cell (Nat.lt_of_lt_of_le hvb hx.size) (gr_cell0 hx hvb hfc)
        refine wp_region_gr (by kernel_rfl) (by kernel_rfl) ?_
        repeat (go_big_quiet_step ((go_at_call 51; with_reducible exact gr_of (square_eq okA _ _ _ _ true _ (HM1.out.ext (ext_step hx (Gr.ok _))) hn1 hs))))
        refine wpQuiet_nil ?_
        intro w2 hw'
        have hb2 := gr_out hw'
        clear hw'
        have hx2 : Below w.heap.size w w2 := ext_step hx hb2
        have B2 := B1.ext hb2
        have B20 := B0.ext hb2
        have c2 := B2.cell
        clear k0 k1' k4 k5
        go_wp2_with fail
        go_ret
        exact ⟨ret_int (by rw [Htab.out, if_pos (.inr (.inr ⟨H4.out, Nat.pos_of_ne_zero HR.out⟩))]), hx2⟩
    have h4' : (t.kind != 4) = false := by simpa using h4
    have H4 := hid h4
    clear h4
    by_cases hr : sq t.rw vfr vfr = true
    rotate_left
    · have hr : sq t.rw vfr vfr = false := by simpa using hr
      go_enter Tryz.func25, Tryz.ntmps25
      go_wp2_with fail
      refine (rstored_any _ _ _ _ _ _ _ _ _ _ _).mono ?_
      rintro e w1 ⟨rfl, hb1⟩
      obtain ⟨hc1, hf1⟩ := bcell hb1
      have hz1 := hb1.size
      try simp at hz1
      have z1_0 : w.heap.size < w1.heap.size := by omega
      have z1_1 : w.heap.size + 1 < w1.heap.size := by omega
      go_wp2_with fail
      have B0 : Blk w1 w.heap.size 25 #[.slice (some ⟨vb, voff, none⟩) vs.length vc, .slice nA nn nc, .slice gA gn gc, .slice tA tn tc] := by (repeat (first | assumption | (with_reducible refine Blk.new' ?_; simp; done) | with_reducible refine Blk.alloc ?_ _ | with_reducible refine Blk.drew ?_ | with_reducible refine Blk.ext ?_ (by assumption)))
      have B1 : Blk w1 (w.heap.size + 1) 53 #[.int .i64 t.kind, .int .i64 t.frm, .int .i64 t.tto, .bool true, .slice okA t.ok.length okc, .slice rwA t.rw.length rwc] := by (repeat (first | assumption | (with_reducible refine Blk.new' ?_; simp; done) | with_reducible refine Blk.alloc ?_ _ | with_reducible refine Blk.drew ?_ | with_reducible refine Blk.ext ?_ (by assumption)))
      have hx : Below w.heap.size w w1 := by (repeat (first | with_reducible exact ext_refl _ | with_reducible refine ext_alloc ?_ _ | with_reducible refine ext_set ?_ (by omega) _ | with_reducible refine ext_drew ?_ | with_reducible refine ext_step ?_ (by assumption)))
      have k0 := gr_blk B0
      have k1' := gr_blk B1
      have k4 := gr_cell (Nat.lt_of_lt_of_le hvb hx.size) (gr_cell0 hx hvb htc)
      have k5 := gr_cell (Nat.lt_of_lt_of_le hvb hx.size) (gr_cell0 hx hvb hfc)
      refine wp_region_gr (by kernel_rfl) (by kernel_rfl) ?_
      repeat (go_big_quiet_step ((go_at_call 51; with_reducible exact gr_of (square_eq okA _ _ _ _ true _ (HM1.out.ext (ext_step hx (Gr.ok _))) hn1 hs))))
      refine wpQuiet_nil ?_
      intro w2 hw'
      have hb2 := gr_out hw'
      clear hw'
      have hx2 : Below w.heap.size w w2 := ext_step hx hb2
      have B2 := B1.ext hb2
      have B20 := B0.ext hb2
      have c2 := B2.cell
      clear k0 k1' k4 k5
      go_wp2_with fail
      have k0 := gr_blk B20
      have k1' := gr_blk B2
      have k5 := gr_cell (Nat.lt_of_lt_of_le hvb hx2.size) (gr_cell0 hx2 hvb hfc)
      refine wp_region_gr (by kernel_rfl) (by kernel_rfl) ?_
      repeat (go_big_quiet_step ((go_at_call 51; with_reducible exact gr_of (square_eq rwA _ _ _ _ false _ (HM2.out.ext (ext_step hx2 (Gr.ok _))) hn2 hr))))
      refine wpQuiet_nil ?_
      intro w3 hw'
      have hb3 := gr_out hw'
      clear hw'
      have hx3 : Below w.heap.size w w3 := ext_step hx2 hb3
      have B3 := B2.ext hb3
      have c3 := B3.cell
      clear k0 k1' k5 c2
      go_wp2_with fail
      go_ret
      exact ⟨ret_int (by rw [Htab.out, if_pos (.inr (.inl ⟨H4.out, hr⟩))]), hx3⟩
    have HR := hid (sq_rows hr)
    go_enter Tryz.func25, Tryz.ntmps25
    go_wp2_with fail
    refine (rstored_any _ _ _ _ _ _ _ _ _ _ _).mono ?_
    rintro e w1 ⟨rfl, hb1⟩
    obtain ⟨hc1, hf1⟩ := bcell hb1
    have hz1 := hb1.size
    try simp at hz1
    have z1_0 : w.heap.size < w1.heap.size := by omega
    have z1_1 : w.heap.size + 1 < w1.heap.size := by omega
    go_wp2_with fail
    have B0 : Blk w1 w.heap.size 25 #[.slice (some ⟨vb, voff, none⟩) vs.length vc, .slice nA nn nc, .slice gA gn gc, .slice tA tn tc] := by (repeat (first | assumption | (with_reducible refine Blk.new' ?_; simp; done) | with_reducible refine Blk.alloc ?_ _ | with_reducible refine Blk.drew ?_ | with_reducible refine Blk.ext ?_ (by assumption)))
    have B1 : Blk w1 (w.heap.size + 1) 53 #[.int .i64 t.kind, .int .i64 t.frm, .int .i64 t.tto, .bool true, .slice okA t.ok.length okc, .slice rwA t.rw.length rwc] := by (repeat (first | assumption | (with_reducible refine Blk.new' ?_; simp; done) | with_reducible refine Blk.alloc ?_ _ | with_reducible refine Blk.drew ?_ | with_reducible refine Blk.ext ?_ (by assumption)))
    have hx : Below w.heap.size w w1 := by (repeat (first | with_reducible exact ext_refl _ | with_reducible refine ext_alloc ?_ _ | with_reducible refine ext_set ?_ (by omega) _ | with_reducible refine ext_drew ?_ | with_reducible refine ext_step ?_ (by assumption)))
    have k0 := gr_blk B0
    have k1' := gr_blk B1
    have k4 := gr_cell (Nat.lt_of_lt_of_le hvb hx.size) (gr_cell0 hx hvb htc)
    have k5 := gr_cell (Nat.lt_of_lt_of_le hvb hx.size) (gr_cell0 hx hvb hfc)
    refine wp_region_gr (by kernel_rfl) (by kernel_rfl) ?_
    repeat (go_big_quiet_step ((go_at_call 51; with_reducible exact gr_of (square_eq okA _ _ _ _ true _ (HM1.out.ext (ext_step hx (Gr.ok _))) hn1 hs))))
    refine wpQuiet_nil ?_
    intro w2 hw'
    have hb2 := gr_out hw'
    clear hw'
    have hx2 : Below w.heap.size w w2 := ext_step hx hb2
    have B2 := B1.ext hb2
    have B20 := B0.ext hb2
    have c2 := B2.cell
    clear k0 k1' k4 k5
    go_wp2_with fail
    have k0 := gr_blk B20
    have k1' := gr_blk B2
    have k5 := gr_cell (Nat.lt_of_lt_of_le hvb hx2.size) (gr_cell0 hx2 hvb hfc)
    refine wp_region_gr (by kernel_rfl) (by kernel_rfl) ?_
    repeat (go_big_quiet_step ((go_at_call 51; with_reducible exact gr_of (square_eq rwA _ _ _ _ true _ (HM2.out.ext (ext_step hx2 (Gr.ok _))) hn2 hr))))
    refine wpQuiet_nil ?_
    intro w3 hw'
    have hb3 := gr_out hw'
    clear hw'
    have hx3 : Below w.heap.size w w3 := ext_step hx2 hb3
    have B3 := B2.ext hb3
    have c3 := B3.cell
    clear k0 k1' k5 c2
    go_wp2_with fail
    go_loopw [6] (fun iv wr => ∃ k : Nat, k ≤ t.rw.length ∧ iv = .int .i64 k ∧ Hid (diagFrom (t.rw.drop k) k = diagFrom t.rw 0) ∧ Below w.heap.size w wr ∧ Blk wr (w.heap.size + 1) 53 #[.int .i64 t.kind, .int .i64 t.frm, .int .i64 t.tto, .bool true, .slice okA t.ok.length okc, .slice rwA t.rw.length rwc]) (fun iv _ => t.rw.length - (intOf iv).toNat)
    case atStart => exact ⟨0, Nat.zero_le _, rfl, rfl, hx3, B3⟩
    case round =>
      obtain ⟨k, hk, rfl, hS, hB, hT⟩ := hrel
      have cT := hT.cell
      by_cases hlt : k < t.rw.length
      · obtain ⟨b, off, rA, rc, rfl, hbl, q0, qc, _⟩ := HM2.out k hlt
        have hrl : k < (t.rw[k]).length := HR.out k hlt
        obtain ⟨rb, ro, rfl, hrb, q1⟩ := qc.at_bool hrl
        have p0 := gr_cell0 hB hbl q0
        have p1 := gr_cell0 hB hrb q1
        have HD : Hid (diagFrom (t.rw.drop k) k = ((t.rw[k]).getD k false && diagFrom (t.rw.drop (k + 1)) (k + 1))) := by
          show _ = _; rw [drop_cons hlt]; rfl
        have HG : Hid ((t.rw[k]).getD k false = (t.rw[k])[k]) := by
          show _ = _; rw [List.getD_eq_getElem?_getD, List.getElem?_eq_getElem hrl]; rfl
        clear q0 q1 qc
        generalize hbv : (t.rw[k])[k] = bv at p1 HG
        have Hbv := hid hbv
        clear hbv
        cases bv
        · go_wp2_with fail
          go_ret
          exact ⟨ret_int (by rw [Htab.out, if_neg (by simp [hs, hr, H4.out]), if_pos (by rw [← hS.out, HD.out, HG.out]; rfl)]), hB⟩
        · go_wp2_with fail
          go_roundw
          case rel => exact ⟨k + 1, by omega, by go_num, by show _ = _; rw [← hS.out, HD.out, HG.out]; rfl, hB, hT⟩
          case measure => simp [intOf]; omega
      · go_wp2_with fail
        go_ret
        refine ⟨ret_int ?_, hB⟩
        rw [Htab.out, if_neg (by simp [hs, hr, H4.out]), if_neg]
        rw [← hS.out, List.drop_eq_nil_of_le (by omega)]
        simp [diagFrom]
  · have haw' : t.aware = false := by simpa using haw
    clear haw st1
    by_cases f0 : t.frm < 0
    · have HE : Hid (tabErr vs t = 4) := by
        show _ = _; unfold tabErr; rw [if_neg (by simp [HK.out]), if_pos (by simp [withinB]; omega)]
      go_enter Tryz.func25, Tryz.ntmps25
      go_wp2_with fail
      go_ret
      refine ⟨ret_int HE.out.symm, ?_⟩
      (repeat (first | with_reducible exact ext_refl _ | with_reducible refine ext_alloc ?_ _ | with_reducible refine ext_set ?_ (by omega) _ | with_reducible refine ext_drew ?_ | with_reducible refine ext_step ?_ (by assumption)))

    by_cases f1 : (vs.length : Int) ≤ t.frm
    · have HE : Hid (tabErr vs t = 4) := by
        show _ = _; unfold tabErr; rw [if_neg (by simp [HK.out]), if_pos (by simp [withinB]; omega)]
      go_enter Tryz.func25, Tryz.ntmps25
      go_wp2_with fail
      go_ret
      refine ⟨ret_int HE.out.symm, ?_⟩
      (repeat (first | with_reducible exact ext_refl _ | with_reducible refine ext_alloc ?_ _ | with_reducible refine ext_set ?_ (by omega) _ | with_reducible refine ext_drew ?_ | with_reducible refine ext_step ?_ (by assumption)))

    by_cases t0 : t.tto < 0
    · have HE : Hid (tabErr vs t = 4) := by
        show _ = _; unfold tabErr; rw [if_neg (by simp [HK.out]), if_pos (by simp [withinB]; omega)]
      go_enter Tryz.func25, Tryz.ntmps25
      go_wp2_with fail
      go_ret
      refine ⟨ret_int HE.out.symm, ?_⟩
      (repeat (first | with_reducible exact ext_refl _ | with_reducible refine ext_alloc ?_ _ | with_reducible refine ext_set ?_ (by omega) _ | with_reducible refine ext_drew ?_ | with_reducible refine ext_step ?_ (by assumption)))

    by_cases t1 : (vs.length : Int) ≤ t.tto
    · have HE : Hid (tabErr vs t = 4) := by
        show _ = _; unfold tabErr; rw [if_neg (by simp [HK.out]), if_pos (by simp [withinB]; omega)]
      go_enter Tryz.func25, Tryz.ntmps25
      go_wp2_with fail
      go_ret
      refine ⟨ret_int HE.out.symm, ?_⟩
      (repeat (first | with_reducible exact ext_refl _ | with_reducible refine ext_alloc ?_ _ | with_reducible refine ext_set ?_ (by omega) _ | with_reducible refine ext_drew ?_ | with_reducible refine ext_step ?_ (by assumption)))

    obtain ⟨vb, voff, rfl, hvb, hfc⟩ := HV.out.at_int (k := t.frm.toNat) (by omega)
    obtain ⟨_, _, hvv, _, htc⟩ := HV.out.at_int (k := t.tto.toNat) (by omega)
    injection hvv with hvv
    injection hvv with e1 e2
    subst e1 e2
    have htab : tabErr vs t = if sq t.ok vs[t.frm.toNat] vs[t.tto.toNat] = false ∨ (t.kind = 4 ∧ sq t.rw vs[t.frm.toNat] vs[t.frm.toNat] = false) ∨ (¬ t.kind = 4 ∧ 0 < t.rw.length) then 6 else if diagFrom t.rw 0 = false then 1 else 0 := by
      unfold tabErr
      rw [if_neg (by simp [HK.out]), if_neg (by simp [withinB]; omega), List.getD_eq_getElem?_getD, List.getD_eq_getElem?_getD, List.getElem?_eq_getElem (by omega), List.getElem?_eq_getElem (by omega)]
      rfl
    generalize vs[t.frm.toNat] = vfr at hfc htab
    generalize vs[t.tto.toNat] = vto at htc htab
    have Htab := hid htab
    clear htab
    by_cases hs : sq t.ok vfr vto = true
    rotate_left
    · have hs : sq t.ok vfr vto = false := by simpa using hs
      go_enter Tryz.func25, Tryz.ntmps25
      go_wp2_with fail
      have B0 : Blk ((w.alloc (.cells #[.slice (some ⟨vb, voff, none⟩) vs.length vc, .slice nA nn nc, .slice gA gn gc, .slice tA tn tc] 25)).alloc (.cells #[.int .i64 t.kind, .int .i64 t.frm, .int .i64 t.tto, .bool false, .slice okA t.ok.length okc, .slice rwA t.rw.length rwc] 53)) w.heap.size 25 #[.slice (some ⟨vb, voff, none⟩) vs.length vc, .slice nA nn nc, .slice gA gn gc, .slice tA tn tc] := by (repeat (first | assumption | (with_reducible refine Blk.new' ?_; simp; done) | with_reducible refine Blk.alloc ?_ _ | with_reducible refine Blk.drew ?_ | with_reducible refine Blk.ext ?_ (by assumption)))
      have B1 : Blk ((w.alloc (.cells #[.slice (some ⟨vb, voff, none⟩) vs.length vc, .slice nA nn nc, .slice gA gn gc, .slice tA tn tc] 25)).alloc (.cells #[.int .i64 t.kind, .int .i64 t.frm, .int .i64 t.tto, .bool false, .slice okA t.ok.length okc, .slice rwA t.rw.length rwc] 53)) (w.heap.size + 1) 53 #[.int .i64 t.kind, .int .i64 t.frm, .int .i64 t.tto, .bool false, .slice okA t.ok.length okc, .slice rwA t.rw.length rwc] := by (repeat (first | assumption | (with_reducible refine Blk.new' ?_; simp; done) | with_reducible refine Blk.alloc ?_ _ | with_reducible refine Blk.drew ?_ | with_reducible refine Blk.ext ?_ (by assumption)))
      have hx : Below w.heap.size w ((w.alloc (.cells #[.slice (some ⟨vb, voff, none⟩) vs.length vc, .slice nA nn nc, .slice gA gn gc, .slice tA tn tc] 25)).alloc (.cells #[.int .i64 t.kind, .int .i64 t.frm, .int .i64 t.tto, .bool false, .slice okA t.ok.length okc, .slice rwA t.rw.length rwc] 53)) := by (repeat (first | with_reducible exact ext_refl _ | with_reducible refine ext_alloc ?_ _ | with_reducible refine ext_set ?_ (by omega) _ | with_reducible refine ext_drew ?_ | with_reducible refine ext_step ?_ (by assumption)))
      have k0 := gr_blk B0
      have k1' := gr_blk B1
      have k4 := gr_cell (Nat.lt_of_lt_of_le hvb hx.size) (gr_cell0 hx hvb htc)
      have k5 := gr_cell (Nat.lt_of_lt_of_le hvb hx.size) (gr_cell0 hx hvb hfc)
      refine wp_region_gr (by kernel_rfl) (by kernel_rfl) ?_
      repeat (go_big_quiet_step ((go_at_call 51; with_reducible exact gr_of (square_eq okA _ _ _ _ false _ (HM1.out.ext (ext_step hx (Gr.ok _))) hn1 hs))))
      refine wpQuiet_nil ?_
      intro w2 hw'
      have hb2 := gr_out hw'
      clear hw'
      have hx2 : Below w.heap.size w w2 := ext_step hx hb2
      have B2 := B1.ext hb2
      have B20 := B0.ext hb2
      have c2 := B2.cell
      clear k0 k1' k4 k5
      go_wp2_with fail
      go_ret
      exact ⟨ret_int (by rw [Htab.out, if_pos (.inl hs)]), hx2⟩
    by_cases h4 : t.kind = 4
    rotate_left
    · have h4' : (t.kind != 4) = true := by simpa using h4
      have H4 := hid h4
      clear h4
      by_cases hr : t.rw.length = 0
      · have hr' : ((t.rw.length : Int) != 0) = false := by simp; exact List.length_eq_zero_iff.1 hr
        have HR := hid hr
        clear hr
        go_enter Tryz.func25, Tryz.ntmps25
        go_wp2_with fail
        have B0 : Blk ((w.alloc (.cells #[.slice (some ⟨vb, voff, none⟩) vs.length vc, .slice nA nn nc, .slice gA gn gc, .slice tA tn tc] 25)).alloc (.cells #[.int .i64 t.kind, .int .i64 t.frm, .int .i64 t.tto, .bool false, .slice okA t.ok.length okc, .slice rwA t.rw.length rwc] 53)) w.heap.size 25 #[.slice (some ⟨vb, voff, none⟩) vs.length vc, .slice nA nn nc, .slice gA gn gc, .slice tA tn tc] := by (repeat (first | assumption | (with_reducible refine Blk.new' ?_; simp; done) | with_reducible refine Blk.alloc ?_ _ | with_reducible refine Blk.drew ?_ | with_reducible refine Blk.ext ?_ (by assumption)))
        have B1 : Blk ((w.alloc (.cells #[.slice (some ⟨vb, voff, none⟩) vs.length vc, .slice nA nn nc, .slice gA gn gc, .slice tA tn tc] 25)).alloc (.cells #[.int .i64 t.kind, .int .i64 t.frm, .int .i64 t.tto, .bool false, .slice okA t.ok.length okc, .slice rwA t.rw.length rwc] 53)) (w.heap.size + 1) 53 #[.int .i64 t.kind, .int .i64 t.frm, .int .i64 t.tto, .bool false, .slice okA t.ok.length okc, .slice rwA t.rw.length rwc] := by (repeat (first | assumption | (with_reducible refine Blk.new' ?_; simp; done) | with_reducible refine Blk.alloc ?_ _ | with_reducible refine Blk.drew ?_ | with_reducible refine Blk.ext ?_ (by assumption)))
        have hx : Below w.heap.size w ((w.alloc (.cells #[.slice (some ⟨vb, voff, none⟩) vs.length vc, .slice nA nn nc, .slice gA gn gc, .slice tA tn tc] 25)).alloc (.cells #[.int .i64 t.kind, .int .i64 t.frm, .int .i64 t.tto, .bool false, .slice okA t.ok.length okc, .slice rwA t.rw.length rwc] 53)) := by (repeat (first | with_reducible exact ext_refl _ | with_reducible refine ext_alloc ?_ _ | with_reducible refine ext_set ?_ (by omega) _ | with_reducible refine ext_drew ?_ | with_reducible refine ext_step ?_ (by assumption)))
        have k0 := gr_blk B0
        have k1' := gr_blk B1
        have k4 := gr_cell (Nat.lt_of_lt_of_le hvb hx.size) (gr_cell0 hx hvb htc)
        have k5 := gr_cell (Nat.lt_of_lt_of_le hvb hx.size) (gr_cell0 hx hvb hfc)
        refine wp_region_gr (by kernel_rfl) (by kernel_rfl) ?_
        repeat (go_big_quiet_step ((go_at_call 51; with_reducible exact gr_of (square_eq okA _ _ _ _ true _ (HM1.out.ext (ext_step hx (Gr.ok _))) hn1 hs))))
        refine wpQuiet_nil ?_
        intro w2 hw'
        have hb2 := gr_out hw'
        clear hw'
        have hx2 : Below w.heap.size w w2 := ext_step hx hb2
        have B2 := B1.ext hb2
        have B20 := B0.ext hb2
        have c2 := B2.cell
        clear k0 k1' k4 k5
        go_wp2_with fail
        go_ret
        exact ⟨ret_int (by rw [Htab.out, if_neg (by simp [hs, H4.out]; exact List.length_eq_zero_iff.1 HR.out), if_neg (by rw [List.length_eq_zero_iff.1 HR.out]; simp [diagFrom])]), hx2⟩
      · have hr' : ((t.rw.length : Int) != 0) = true := by simp; intro h; exact hr (by rw [h]; rfl)
        have HR := hid hr
        clear hr
        go_enter Tryz.func25, Tryz.ntmps25
        go_wp2_with fail
        have B0 : Blk ((w.alloc (.cells #[.slice (some ⟨vb, voff, none⟩) vs.length vc, .slice nA nn nc, .slice gA gn gc, .slice tA tn tc] 25)).alloc (.cells #[.int .i64 t.kind, .int .i64 t.frm, .int .i64 t.tto, .bool false, .slice okA t.ok.length okc, .slice rwA t.rw.length rwc] 53)) w.heap.size 25 #[.slice (some ⟨vb, voff, none⟩) vs.length vc, .slice nA nn nc, .slice gA gn gc, .slice tA tn tc] := by (repeat (first | assumption | (with_reducible refine Blk.new' ?_; simp; done) | with_reducible refine Blk.alloc ?_ _ | with_reducible refine Blk.drew ?_ | with_reducible refine Blk.ext ?_ (by assumption)))
        have B1 : Blk ((w.alloc (.cells #[.slice (some ⟨vb, voff, none⟩) vs.length vc, .slice nA nn nc, .slice gA gn gc, .slice tA tn tc] 25)).alloc (.cells #[.int .i64 t.kind, .int .i64 t.frm, .int .i64 t.tto, .bool false, .slice okA t.ok.length okc, .slice rwA t.rw.length rwc] 53)) (w.heap.size + 1) 53 #[.int .i64 t.kind, .int .i64 t.frm, .int .i64 t.tto, .bool false, .slice okA t.ok.length okc, .slice rwA t.rw.length rwc] := by (repeat (first | assumption | (with_reducible refine Blk.new' ?_; simp; done) | with_reducible refine Blk.alloc ?_ _ | with_reducible refine Blk.drew ?_ | with_reducible refine Blk.ext ?_ (by assumption)))
        have hx : Below w.heap.size w ((w.alloc (.cells #[.slice (some ⟨vb, voff, none⟩) vs.length vc, .slice nA nn nc, .slice gA gn gc, .slice tA tn tc] 25)).alloc (.cells #[.int .i64 t.kind, .int .i64 t.frm, .int .i64 t.tto, .bool false, .slice okA t.ok.length okc, .slice rwA t.rw.length rwc] 53)) := by (repeat (first | with_reducible exact ext_refl _ | with_reducible refine ext_alloc ?_ _ | with_reducible refine ext_set ?_ (by omega) _ | with_reducible refine ext_drew ?_ | with_reducible refine ext_step ?_ (by assumption)))
        have k0 := gr_blk B0
        have k1' := gr_blk B1
        have k4 := gr_cell (Nat.lt_of_lt_of_le hvb hx.size) (gr_cell0 hx hvb htc)
        have k5 := gr_cell (Nat.lt_of_lt_of_le hvb hx.size) (gr_cell0 hx hvb hfc)
        refine wp_region_gr (by kernel_rfl) (by kernel_rfl) ?_
        repeat (go_big_quiet_step ((go_at_call 51; with_reducible exact gr_of (square_eq okA _ _ _ _ true _ (HM1.out.ext (ext_step hx (Gr.ok _))) hn1 hs))))
        refine wpQuiet_nil ?_
        intro w2 hw'
        have hb2 := gr_out hw'
        clear hw'
        have hx2 : Below w.heap.size w w2 := ext_step hx hb2
        have B2 := B1.ext hb2
        have B20 := B0.ext hb2
        have c2 := B2.cell
        clear k0 k1' k4 k5
        go_wp2_with fail
        go_ret
        exact ⟨ret_int (by rw [Htab.out, if_pos (.inr (.inr ⟨H4.out, Nat.pos_of_ne_zero HR.out⟩))]), hx2⟩
    have h4' : (t.kind != 4) = false := by simpa using h4
    have H4 := hid h4
    clear h4
    by_cases hr : sq t.rw vfr vfr = true
    rotate_left
    · have hr : sq t.rw vfr vfr = false := by simpa using hr
      go_enter Tryz.func25, Tryz.ntmps25
      go_wp2_with fail
      have B0 : Blk ((w.alloc (.cells #[.slice (some ⟨vb, voff, none⟩) vs.length vc, .slice nA nn nc, .slice gA gn gc, .slice tA tn tc] 25)).alloc (.cells #[.int .i64 t.kind, .int .i64 t.frm, .int .i64 t.tto, .bool false, .slice okA t.ok.length okc, .slice rwA t.rw.length rwc] 53)) w.heap.size 25 #[.slice (some ⟨vb, voff, none⟩) vs.length vc, .slice nA nn nc, .slice gA gn gc, .slice tA tn tc] := by (repeat (first | assumption | (with_reducible refine Blk.new' ?_; simp; done) | with_reducible refine Blk.alloc ?_ _ | with_reducible refine Blk.drew ?_ | with_reducible refine Blk.ext ?_ (by assumption)))
      have B1 : Blk ((w.alloc (.cells #[.slice (some ⟨vb, voff, none⟩) vs.length vc, .slice nA nn nc, .slice gA gn gc, .slice tA tn tc] 25)).alloc (.cells #[.int .i64 t.kind, .int .i64 t.frm, .int .i64 t.tto, .bool false, .slice okA t.ok.length okc, .slice rwA t.rw.length rwc] 53)) (w.heap.size + 1) 53 #[.int .i64 t.kind, .int .i64 t.frm, .int .i64 t.tto, .bool false, .slice okA t.ok.length okc, .slice rwA t.rw.length rwc] := by (repeat (first | assumption | (with_reducible refine Blk.new' ?_; simp; done) | with_reducible refine Blk.alloc ?_ _ | with_reducible refine Blk.drew ?_ | with_reducible refine Blk.ext ?_ (by assumption)))
      have hx : Below w.heap.size w ((w.alloc (.cells #[.slice (some ⟨vb, voff, none⟩) vs.length vc, .slice nA nn nc, .slice gA gn gc, .slice tA tn tc] 25)).alloc (.cells #[.int .i64 t.kind, .int .i64 t.frm, .int .i64 t.tto, .bool false, .slice okA t.ok.length okc, .slice rwA t.rw.length rwc] 53)) := by (repeat (first | with_reducible exact ext_refl _ | with_reducible refine ext_alloc ?_ _ | with_reducible refine ext_set ?_ (by omega) _ | with_reducible refine ext_drew ?_ | with_reducible refine ext_step ?_ (by assumption)))
      have k0 := gr_blk B0
      have k1' := gr_blk B1
      have k4 := gr_cell (Nat.lt_of_lt_of_le hvb hx.size) (gr_cell0 hx hvb htc)
      have k5 := gr_cell (Nat.lt_of_lt_of_le hvb hx.size) (gr_cell0 hx hvb hfc)
      refine wp_region_gr (by kernel_rfl) (by kernel_rfl) ?_
      repeat (go_big_quiet_step ((go_at_call 51; with_reducible exact gr_of (square_eq okA _ _ _ _ true _ (HM1.out.ext (ext_step hx (Gr.ok _))) hn1 hs))))
      refine wpQuiet_nil ?_
      intro w2 hw'
      have hb2 := gr_out hw'
      clear hw'
      have hx2 : Below w.heap.size w w2 := ext_step hx hb2
      have B2 := B1.ext hb2
      have B20 := B0.ext hb2
      have c2 := B2.cell
      clear k0 k1' k4 k5
      go_wp2_with fail
      have k0 := gr_blk B20
      have k1' := gr_blk B2
      have k5 := gr_cell (Nat.lt_of_lt_of_le hvb hx2.size) (gr_cell0 hx2 hvb hfc)
      refine wp_region_gr (by kernel_rfl) (by kernel_rfl) ?_
      repeat (go_big_quiet_step ((go_at_call 51; with_reducible exact gr_of (square_eq rwA _ _ _ _ false _ (HM2.out.ext (ext_step hx2 (Gr.ok _))) hn2 hr))))
      refine wpQuiet_nil ?_
      intro w3 hw'
      have hb3 := gr_out hw'
      clear hw'
      have hx3 : Below w.heap.size w w3 := ext_step hx2 hb3
      have B3 := B2.ext hb3
      have c3 := B3.cell
      clear k0 k1' k5 c2
      go_wp2_with fail
      go_ret
      exact ⟨ret_int (by rw [Htab.out, if_pos (.inr (.inl ⟨H4.out, hr⟩))]), hx3⟩
    have HR := hid (sq_rows hr)
    go_enter Tryz.func25, Tryz.ntmps25
    go_wp2_with fail
    have B0 : Blk ((w.alloc (.cells #[.slice (some ⟨vb, voff, none⟩) vs.length vc, .slice nA nn nc, .slice gA gn gc, .slice tA tn tc] 25)).alloc (.cells #[.int .i64 t.kind, .int .i64 t.frm, .int .i64 t.tto, .bool false, .slice okA t.ok.length okc, .slice rwA t.rw.length rwc] 53)) w.heap.size 25 #[.slice (some ⟨vb, voff, none⟩) vs.length vc, .slice nA nn nc, .slice gA gn gc, .slice tA tn tc] := by (repeat (first | assumption | (with_reducible refine Blk.new' ?_; simp; done) | with_reducible refine Blk.alloc ?_ _ | with_reducible refine Blk.drew ?_ | with_reducible refine Blk.ext ?_ (by assumption)))
    have B1 : Blk ((w.alloc (.cells #[.slice (some ⟨vb, voff, none⟩) vs.length vc, .slice nA nn nc, .slice gA gn gc, .slice tA tn tc] 25)).alloc (.cells #[.int .i64 t.kind, .int .i64 t.frm, .int .i64 t.tto, .bool false, .slice okA t.ok.length okc, .slice rwA t.rw.length rwc] 53)) (w.heap.size + 1) 53 #[.int .i64 t.kind, .int .i64 t.frm, .int .i64 t.tto, .bool false, .slice okA t.ok.length okc, .slice rwA t.rw.length rwc] := by (repeat (first | assumption | (with_reducible refine Blk.new' ?_; simp; done) | with_reducible refine Blk.alloc ?_ _ | with_reducible refine Blk.drew ?_ | with_reducible refine Blk.ext ?_ (by assumption)))
    have hx : Below w.heap.size w ((w.alloc (.cells #[.slice (some ⟨vb, voff, none⟩) vs.length vc, .slice nA nn nc, .slice gA gn gc, .slice tA tn tc] 25)).alloc (.cells #[.int .i64 t.kind, .int .i64 t.frm, .int .i64 t.tto, .bool false, .slice okA t.ok.length okc, .slice rwA t.rw.length rwc] 53)) := by (repeat (first | with_reducible exact ext_refl _ | with_reducible refine ext_alloc ?_ _ | with_reducible refine ext_set ?_ (by omega) _ | with_reducible refine ext_drew ?_ | with_reducible refine ext_step ?_ (by assumption)))
    have k0 := gr_blk B0
    have k1' := gr_blk B1
    have k4 := gr_cell (Nat.lt_of_lt_of_le hvb hx.size) (gr_cell0 hx hvb htc)
    have k5 := gr_cell (Nat.lt_of_lt_of_le hvb hx.size) (gr_cell0 hx hvb hfc)
    refine wp_region_gr (by kernel_rfl) (by kernel_rfl) ?_
    repeat (go_big_quiet_step ((go_at_call 51; with_reducible exact gr_of (square_eq okA _ _ _ _ true _ (HM1.out.ext (ext_step hx (Gr.ok _))) hn1 hs))))
    refine wpQuiet_nil ?_
    intro w2 hw'
    have hb2 := gr_out hw'
    clear hw'
    have hx2 : Below w.heap.size w w2 := ext_step hx hb2
    have B2 := B1.ext hb2
    have B20 := B0.ext hb2
    have c2 := B2.cell
    clear k0 k1' k4 k5
    go_wp2_with fail
    have k0 := gr_blk B20
    have k1' := gr_blk B2
    have k5 := gr_cell (Nat.lt_of_lt_of_le hvb hx2.size) (gr_cell0 hx2 hvb hfc)
    refine wp_region_gr (by kernel_rfl) (by kernel_rfl) ?_
    repeat (go_big_quiet_step ((go_at_call 51; with_reducible exact gr_of (square_eq rwA _ _ _ _ true _ (HM2.out.ext (ext_step hx2 (Gr.ok _))) hn2 hr))))
    refine wpQuiet_nil ?_
    intro w3 hw'
    have hb3 := gr_out hw'
    clear hw'
    have hx3 : Below w.heap.size w w3 := ext_step hx2 hb3
    have B3 := B2.ext hb3
    have c3 := B3.cell
    clear k0 k1' k5 c2
    go_wp2_with fail
    go_loopw [6] (fun iv wr => ∃ k : Nat, k ≤ t.rw.length ∧ iv = .int .i64 k ∧ Hid (diagFrom (t.rw.drop k) k = diagFrom t.rw 0) ∧ Below w.heap.size w wr ∧ Blk wr (w.heap.size + 1) 53 #[.int .i64 t.kind, .int .i64 t.frm, .int .i64 t.tto, .bool false, .slice okA t.ok.length okc, .slice rwA t.rw.length rwc]) (fun iv _ => t.rw.length - (intOf iv).toNat)
    case atStart => exact ⟨0, Nat.zero_le _, rfl, rfl, hx3, B3⟩
    case round =>
      obtain ⟨k, hk, rfl, hS, hB, hT⟩ := hrel
      have cT := hT.cell
      by_cases hlt : k < t.rw.length
      · obtain ⟨b, off, rA, rc, rfl, hbl, q0, qc, _⟩ := HM2.out k hlt
        have hrl : k < (t.rw[k]).length := HR.out k hlt
        obtain ⟨rb, ro, rfl, hrb, q1⟩ := qc.at_bool hrl
        have p0 := gr_cell0 hB hbl q0
        have p1 := gr_cell0 hB hrb q1
        have HD : Hid (diagFrom (t.rw.drop k) k = ((t.rw[k]).getD k false && diagFrom (t.rw.drop (k + 1)) (k + 1))) := by
          show _ = _; rw [drop_cons hlt]; rfl
        have HG : Hid ((t.rw[k]).getD k false = (t.rw[k])[k]) := by
          show _ = _; rw [List.getD_eq_getElem?_getD, List.getElem?_eq_getElem hrl]; rfl
        clear q0 q1 qc
        generalize hbv : (t.rw[k])[k] = bv at p1 HG
        have Hbv := hid hbv
        clear hbv
        cases bv
        · go_wp2_with fail
          go_ret
          exact ⟨ret_int (by rw [Htab.out, if_neg (by simp [hs, hr, H4.out]), if_pos (by rw [← hS.out, HD.out, HG.out]; rfl)]), hB⟩
        · go_wp2_with fail
          go_roundw
          case rel => exact ⟨k + 1, by omega, by go_num, by show _ = _; rw [← hS.out, HD.out, HG.out]; rfl, hB, hT⟩
          case measure => simp [intOf]; omega
      · go_wp2_with fail
        go_ret
        refine ⟨ret_int ?_, hB⟩
        rw [Htab.out, if_neg (by simp [hs, hr, H4.out]), if_neg]
        rw [← hS.out, List.drop_eq_nil_of_le (by omega)]
        simp [diagFrom]
end Go.Proofs.YtliooohflhogpaaGreatDoor
namespace Go.Proofs.YtliooohflhogpaaGreatDoor
open Go.RowKit
set_option linter.unusedSimpArgs false
set_option linter.unusedVariables false
set_option maxHeartbeats 1500000
set_option maxRecDepth 100000
theorem rvalidProblem_any (v : Value) (p : Prob) (w : World) (hp : ProbAt w v p) :
    Calls Tryz.prog 12 #[v] w fun e w' => e = .returned (.int .i64 (vpErr p)) ∧ Below w.heap.size w w' := by
  obtain ⟨vA, vc, nA, nc, gA, gc, tA, tc, rfl, hv, hn, hg, ht, l0, l1, l2, l3⟩ := hp
  have HV := hid hv
  have HN := hid hn
  have HG := hid hg
  have HT := hid ht
  clear hv hn hg ht
  by_cases c1 : 6 < p.vs.length
  · go_enter Tryz.func12, Tryz.ntmps12
    go_wp2_with fail
    go_ret
    refine ⟨ret_int (by unfold vpErr; rw [if_pos (Or.inl c1)]), ?_⟩
    (repeat (first | with_reducible exact ext_refl _ | with_reducible refine ext_alloc ?_ _ | with_reducible refine ext_set ?_ (by omega) _ | with_reducible refine ext_drew ?_ | with_reducible refine ext_step ?_ (by assumption)))
  by_cases c2 : 12 < p.tabs.length
  · go_enter Tryz.func12, Tryz.ntmps12
    go_wp2_with fail
    go_ret
    refine ⟨ret_int (by unfold vpErr; rw [if_pos (Or.inr c2)]), ?_⟩
    (repeat (first | with_reducible exact ext_refl _ | with_reducible refine ext_alloc ?_ _ | with_reducible refine ext_set ?_ (by omega) _ | with_reducible refine ext_drew ?_ | with_reducible refine ext_step ?_ (by assumption)))
  by_cases c3 : p.now.length = p.vs.length
  rotate_left
  · have c3' : ((p.now.length : Int) != p.vs.length) = true := by simp; omega
    go_enter Tryz.func12, Tryz.ntmps12
    go_wp2_with fail
    go_ret
    refine ⟨ret_int (by unfold vpErr; rw [if_neg (by omega), if_pos (Or.inl c3)]), ?_⟩
    (repeat (first | with_reducible exact ext_refl _ | with_reducible refine ext_alloc ?_ _ | with_reducible refine ext_set ?_ (by omega) _ | with_reducible refine ext_drew ?_ | with_reducible refine ext_step ?_ (by assumption)))
  by_cases c4 : p.tgt.length = p.vs.length
  rotate_left
  · have c3' : ((p.now.length : Int) != p.vs.length) = false := by simp; omega
    have c4' : ((p.tgt.length : Int) != p.vs.length) = true := by simp; omega
    have C3 := hid c3
    clear c3
    go_enter Tryz.func12, Tryz.ntmps12
    go_wp2_with fail
    go_ret
    refine ⟨ret_int (by unfold vpErr; rw [if_neg (by omega), if_pos (Or.inr c4)]), ?_⟩
    (repeat (first | with_reducible exact ext_refl _ | with_reducible refine ext_alloc ?_ _ | with_reducible refine ext_set ?_ (by omega) _ | with_reducible refine ext_drew ?_ | with_reducible refine ext_step ?_ (by assumption)))
  have c3' : ((p.now.length : Int) != p.vs.length) = false := by simp; omega
  have c4' : ((p.tgt.length : Int) != p.vs.length) = false := by simp; omega
  have d3 : p.vs.length ≤ p.now.length := by omega
  have d4 : p.vs.length ≤ p.tgt.length := by omega
  have hvp : vpErr p = if rngOK p.vs p.now p.tgt = false then 7 else tabsErr p.vs p.tabs := by
    unfold vpErr; rw [if_neg (by omega), if_neg (by omega)]
  have Hvp := hid hvp
  have C3 := hid c3
  have C4 := hid c4
  clear hvp c3 c4
  go_enter Tryz.func12, Tryz.ntmps12
  go_wp2_with fail
  go_loopw [3] (fun iv wr => ∃ k : Nat, k ≤ p.vs.length ∧ iv = .int .i64 k ∧ Hid (rngOK (p.vs.drop k) (p.now.drop k) (p.tgt.drop k) = rngOK p.vs p.now p.tgt) ∧ Below w.heap.size w wr ∧
    Blk wr w.heap.size 25 #[.slice vA p.vs.length vc, .slice nA p.now.length nc, .slice gA p.tgt.length gc, .slice tA p.tabs.length tc]) (fun iv _ => p.vs.length - (intOf iv).toNat)
  case atStart => exact ⟨0, Nat.zero_le _, rfl, rfl, ext_alloc (ext_refl _) _, Blk.new _ _ _⟩
  case round =>
    obtain ⟨k, hk, rfl, hS, hB, hP⟩ := hrel
    have zP := hP.lt
    have cP := hP.cell
    by_cases hlt : k < p.vs.length
    · obtain ⟨b0, o0, rfl, hb0, q0⟩ := HV.out.at_int hlt
      obtain ⟨b1, o1, rfl, hb1, q1⟩ := HN.out.at_int (k := k) (by omega)
      obtain ⟨b2, o2, rfl, hb2, q2⟩ := HG.out.at_int (k := k) (by omega)
      have HD := hid (rng_step hlt (show k < p.now.length by omega) (show k < p.tgt.length by omega))
      have p0 := gr_cell0 hB hb0 q0
      have p1 := gr_cell0 hB hb1 q1
      have p2 := gr_cell0 hB hb2 q2
      clear q0 q1 q2
      generalize p.vs[k] = n0 at p0 HD
      generalize p.now[k] = a0 at p1 HD
      generalize p.tgt[k] = t0 at p2 HD
      by_cases g1 : n0 < 1
      · go_wp2_with fail
        go_ret
        exact ⟨ret_int (by rw [Hvp.out, if_pos (by rw [← hS.out, HD.out]; simp; omega)]), hB⟩
      by_cases g2 : 6 < n0
      · go_wp2_with fail
        go_ret
        exact ⟨ret_int (by rw [Hvp.out, if_pos (by rw [← hS.out, HD.out]; simp; omega)]), hB⟩
      by_cases g3 : a0 < 0
      · skip
        go_wp2_with fail
        go_ret
        exact ⟨ret_int (by rw [Hvp.out, if_pos (by rw [← hS.out, HD.out]; simp [withinB]; omega)]), hB⟩
      by_cases g4 : n0 ≤ a0
      · skip
        go_wp2_with fail
        go_ret
        exact ⟨ret_int (by rw [Hvp.out, if_pos (by rw [← hS.out, HD.out]; simp [withinB]; omega)]), hB⟩
      by_cases g5 : t0 < 0
      · skip
        go_wp2_with fail
        go_ret
        exact ⟨ret_int (by rw [Hvp.out, if_pos (by rw [← hS.out, HD.out]; simp [withinB]; omega)]), hB⟩
      by_cases g6 : n0 ≤ t0
      · skip
        go_wp2_with fail
        go_ret
        exact ⟨ret_int (by rw [Hvp.out, if_pos (by rw [← hS.out, HD.out]; simp [withinB]; omega)]), hB⟩
      go_wp2_with fail
      go_roundw
      case rel => exact ⟨k + 1, by omega, by go_num, by show _ = _; rw [← hS.out, HD.out]; simp [withinB]; omega, hB, hP⟩
      case measure => simp [intOf]; omega
    · have HR : Hid (rngOK p.vs p.now p.tgt = true) := by
        show _ = _; rw [← hS.out, List.drop_eq_nil_of_le (by omega)]; rfl
      clear hS
      go_wp2_with fail
      obtain ⟨wo, hwo⟩ : ∃ wo : World, wo = wr := ⟨_, rfl⟩
      clear hwo
      go_loopw [5] (fun iv wi => ∃ k : Nat, k ≤ p.tabs.length ∧ iv = .int .i64 k ∧ Hid (tabsErr p.vs (p.tabs.drop k) = tabsErr p.vs p.tabs) ∧ Below w.heap.size w wi ∧ Blk wi w.heap.size 25 #[.slice vA p.vs.length vc, .slice nA p.now.length nc, .slice gA p.tgt.length gc, .slice tA p.tabs.length tc]) (fun iv _ => p.tabs.length - (intOf iv).toNat)
      case atStart => exact ⟨0, Nat.zero_le _, rfl, rfl, hB, hP⟩
      case round =>
        obtain ⟨j, hj, rfl, hS, hBi, hPi⟩ := hrel
        have zPi := hPi.lt
        have cPi := hPi.cell
        by_cases hjl : j < p.tabs.length
        · obtain ⟨b, off, okA, okc, rwA, rwc, rfl, hbl, q0, q1, q2, q3, q4, q5, hm1, hm2, hn1, hn2⟩ := HT.out j hjl
          have HD := hid (tabs_step (vs := p.vs) hjl)
          have p0 := gr_cell0 hBi hbl q0
          have p1 := gr_cell0 hBi hbl q1
          have p2 := gr_cell0 hBi hbl q2
          have p3 := gr_cell0 hBi hbl q3
          have p4 := gr_cell0 hBi hbl q4
          have p5 := gr_cell0 hBi hbl q5
          have HM1 := hid hm1
          have HM2 := hid hm2
          clear q0 q1 q2 q3 q4 q5 hm1 hm2
          generalize p.tabs[j] = tb at p0 p1 p2 p3 p4 p5 HM1 HM2 HD hn1 hn2
          have HBi := hid hBi
          clear hBi
          go_wp2_with fail
          have k0 := gr_blk hPi
          have j0 := gr_cell (Nat.lt_of_lt_of_le hbl HBi.out.size) p0
          have j1 := gr_cell (Nat.lt_of_lt_of_le hbl HBi.out.size) p1
          have j2 := gr_cell (Nat.lt_of_lt_of_le hbl HBi.out.size) p2
          have j3 := gr_cell (Nat.lt_of_lt_of_le hbl HBi.out.size) p3
          have j4 := gr_cell (Nat.lt_of_lt_of_le hbl HBi.out.size) p4
          have j5 := gr_cell (Nat.lt_of_lt_of_le hbl HBi.out.size) p5
          refine wp_region_gr (by kernel_rfl) (by kernel_rfl) ?_
          repeat (go_big_quiet_step ((go_at_call 25; with_reducible exact gr_of (rtable_any _ _ _ _ _ _ _ _ _ _ _ _ _ _ _ _ tb _ (HV.out.ext (ext_step HBi.out (Gr.ok _))) (HM1.out.ext (ext_step HBi.out (Gr.ok _))) (HM2.out.ext (ext_step HBi.out (Gr.ok _))) hn1 hn2 l0))))
          refine wpQuiet_nil ?_
          intro w2 hw'
          have hb2 := gr_out hw'
          clear hw'
          clear k0 j0 j1 j2 j3 j4 j5
          by_cases ht : tabErr p.vs tb = 0
          · have ht' : (tabErr p.vs tb != 0) = false := by simpa using ht
            have Ht := hid ht
            clear ht
            go_wp2_with fail
            go_roundw
            case rel => exact ⟨j + 1, by omega, by go_num, by show _ = _; rw [← hS.out, HD.out, if_neg (by simp [Ht.out])], ext_step HBi.out hb2, hPi.ext hb2⟩
            case measure => simp [intOf]; omega
          · have ht' : (tabErr p.vs tb != 0) = true := by simpa using ht
            have Ht := hid ht
            clear ht
            go_wp2_with fail
            go_ret
            exact ⟨ret_int (by rw [Hvp.out, if_neg (by simp [HR.out]), ← hS.out, HD.out, if_pos Ht.out]), ext_step HBi.out hb2⟩
        · go_wp2_with fail
          go_ret
          exact ⟨ret_int (by rw [Hvp.out, if_neg (by simp [HR.out]), ← hS.out, List.drop_eq_nil_of_le (by omega)]; rfl), hBi⟩
end Go.Proofs.YtliooohflhogpaaGreatDoor
