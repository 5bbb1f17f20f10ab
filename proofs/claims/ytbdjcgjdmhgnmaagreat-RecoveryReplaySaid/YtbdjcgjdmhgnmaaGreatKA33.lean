import Derived.Test.YtbdjcgjdmhgnmaaGreatKA1
import Derived.Test.YtbdjcgjdmhgnmaaGreatKA11
import Derived.Test.YtbdjcgjdmhgnmaaGreatKA32
namespace Go.Proofs.YtbdjcgjdmhgnmaaGreat
open Go.RowKit
set_option linter.unusedSimpArgs false
set_option linter.unusedVariables false
set_option maxHeartbeats 2000000
set_option maxRecDepth 100000
theorem within_any (k n : Int) (w : World) : Calls Tryz.prog 135 #[.int .i64 k, .int .i64 n] w fun e w' => e = .returned (.bool (withinB k n)) ∧ Below w.heap.size w w' := by
 go_enter Tryz.func135, Tryz.ntmps135
 go_wp2
 all_goals go_ret
 all_goals exact ⟨ret_bool (by rw [Bool.eq_iff_iff]; simp only [withinB, decide_eq_true_eq, Bool.false_eq_true, false_iff, true_iff]; omega), ext_refl _⟩
theorem fkind_any (k : Int) (aw : Bool) (w : World) : Calls Tryz.prog 160 #[.int .i64 k, .bool aw] w fun e w' => e = .returned (.bool (kindOK k aw)) ∧ Below w.heap.size w w' := by
 go_enter Tryz.func160, Tryz.ntmps160
 go_wp2
 all_goals go_ret
 all_goals refine ⟨ret_bool ?_, ext_refl _⟩
 all_goals (rw [Bool.eq_iff_iff]; simp_all [kindOK]; try omega)
theorem matrix1_any (rA : Option Addr) (n rc g : Nat) (m : Int) (w : World) (hm : w.cell? ⟨g, 0, none⟩ = some (.int .i64 m)) :
    Calls Tryz.prog 177 #[.slice rA n rc, .pointer (some ⟨g, 0, none⟩)] w fun e w' => e = .returned (.bool ((n : Int) != m)) ∧ Below w.heap.size w w' := by
  go_enter Tryz.func177, Tryz.ntmps177
  go_wp2
  go_ret
  exact ⟨rfl, ext_refl _⟩
def IdxPost (B : Bool) (w : World) (e : Ending) (w' : World) : Prop := ∃ r : Int, e = .returned (.int .i64 r) ∧ decide (0 ≤ r) = B ∧ Below w.heap.size w w'
theorem indexRows_any (A : Option Addr) (c g : Nat) (l : List (List Bool)) (m : Int) (w : World) (hg : g < w.heap.size) (hm : w.cell? ⟨g, 0, none⟩ = some (.int .i64 m)) (hl : Mat w A l) (hn : l.length ≤ 4611686018427387904) :
    Calls Tryz.prog 181 #[.slice A l.length c, .func (.func 177) #[] #[.pointer (some ⟨g, 0, none⟩)]] w (IdxPost (!sqRows l m) w) := by
  have HM := hid hl
  clear hl
  go_enter Tryz.func181, Tryz.ntmps181
  go_wp2_with fail
  go_loopw [8] (fun iv wr => ∃ k : Nat, k ≤ l.length ∧ iv = .int .i64 k ∧ Hid (sqRows (l.drop k) m = sqRows l m) ∧ Below w.heap.size w wr) (fun iv _ => l.length - (intOf iv).toNat)
  case atStart => exact ⟨0, Nat.zero_le _, rfl, rfl, ext_refl _⟩
  case round =>
    obtain ⟨k, hk, rfl, hS, hB⟩ := hrel
    by_cases hlt : k < l.length
    · obtain ⟨b, off, rA, rc, rfl, hbl, q0, _, _⟩ := HM.out k hlt
      have p0 := (hB.cell (p := ⟨b, off + k, none⟩) hbl).trans q0
      have pm := (hB.cell (p := ⟨g, 0, none⟩) hg).trans hm
      clear q0
      have HD : Hid (sqRows (l.drop k) m = ((((l[k]).length : Int) == m) && sqRows (l.drop (k + 1)) m)) := by
        show _ = _; rw [drop_cons hlt]; rfl
      by_cases hq : ((l[k]).length : Int) = m
      · have hq' : (((l[k]).length : Int) != m) = false := by simpa using hq
        have Hq := hid hq
        clear hq
        go_wp2_with fail
        refine (matrix1_any _ _ _ _ _ _ pm).mono ?_
        rintro e w1 ⟨rfl, hb1⟩
        obtain ⟨hc1, hf1⟩ := bcell hb1
        have hz1 := hb1.size
        try simp at hz1
        go_wp2_with fail
        go_roundw
        case rel => exact ⟨k + 1, by omega, by go_num, by show _ = _; rw [← hS.out, HD.out, Hq.out]; simp, ext_step hB hb1⟩
        case measure => simp [intOf]; omega
      · have hq' : (((l[k]).length : Int) != m) = true := by simpa using hq
        have Hq := hid hq
        clear hq
        go_wp2_with fail
        refine (matrix1_any _ _ _ _ _ _ pm).mono ?_
        rintro e w1 ⟨rfl, hb1⟩
        obtain ⟨hc1, hf1⟩ := bcell hb1
        have hz1 := hb1.size
        try simp at hz1
        go_wp2_with fail
        go_ret
        exact ⟨_, rfl, by rw [← hS.out, HD.out]; simp [Hq.out], ext_step hB hb1⟩
    · go_wp2
      go_ret
      refine ⟨_, rfl, ?_, hB⟩
      rw [← hS.out, List.drop_eq_nil_of_le (by omega)]
      simp [sqRows]
theorem containsRows_any (A : Option Addr) (c g : Nat) (l : List (List Bool)) (m : Int) (w : World) (hg : g < w.heap.size) (hm : w.cell? ⟨g, 0, none⟩ = some (.int .i64 m)) (hl : Mat w A l) (hn : l.length ≤ 4611686018427387904) :
    Calls Tryz.prog 176 #[.slice A l.length c, .func (.func 177) #[] #[.pointer (some ⟨g, 0, none⟩)]] w fun e w' => e = .returned (.bool (!sqRows l m)) ∧ Below w.heap.size w w' := by
  go_enter Tryz.func176, Tryz.ntmps176
  go_wp2_with fail
  refine (indexRows_any _ _ _ _ _ _ hg hm hl hn).mono ?_
  rintro e w1 ⟨r, rfl, hr, hb⟩
  have Hr := hid hr
  clear hr
  go_wp2_with fail
  go_ret
  exact ⟨ret_bool Hr.out, hb⟩
theorem matrix_any (A : Option Addr) (c : Nat) (l : List (List Bool)) (n m : Int) (w : World) (hl : Mat w A l) (hn : l.length ≤ 4611686018427387904) :
    Calls Tryz.prog 161 #[.slice A l.length c, .int .i64 n, .int .i64 m] w fun e w' => e = .returned (.bool (sq l n m)) ∧ Below w.heap.size w w' := by
  by_cases hq : (l.length : Int) = n
  · have hq' : ((l.length : Int) == n) = true := by simpa using hq
    have Hq := hid hq
    clear hq
    have HM := hid hl
    clear hl
    go_enter Tryz.func161, Tryz.ntmps161
    go_wp2_with fail
    refine (containsRows_any _ _ _ _ m _ (by simp) (by simp [go_sem]) (HM.out.ext (ext_alloc (ext_refl _) _)) hn).mono ?_
    rintro e w1 ⟨rfl, hb⟩
    go_wp2_with fail
    go_ret
    exact ⟨ret_bool (by simp [sq, Hq.out]), ext_step (ext_alloc (ext_refl _) _) hb⟩
  · have hq' : ((l.length : Int) == n) = false := by simpa using hq
    go_enter Tryz.func161, Tryz.ntmps161
    go_wp2_with fail
    go_ret
    exact ⟨ret_bool (by simp [sq, hq']), ext_alloc (ext_refl _) _⟩
end Go.Proofs.YtbdjcgjdmhgnmaaGreat
namespace Go.Proofs.YtbdjcgjdmhgnmaaGreat
open Go.RowKit
set_option linter.unusedSimpArgs false
set_option linter.unusedVariables false
set_option maxHeartbeats 4000000
set_option maxRecDepth 100000
theorem matrix_eq (A : Option Addr) (c : Nat) (l : List (List Bool)) (n m : Int) (B : Bool) (w : World) (hl : Mat w A l) (hn : l.length ≤ 4611686018427387904) (hB : sq l n m = B) :
    Calls Tryz.prog 161 #[.slice A l.length c, .int .i64 n, .int .i64 m] w fun e w' => e = .returned (.bool B) ∧ Below w.heap.size w w' := by
  rw [← hB]; exact matrix_any A c l n m w hl hn
theorem sq_rows {l : List (List Bool)} {n : Int} (h : sq l n n = true) (k : Nat) (hk : k < l.length) : k < (l[k]).length := by
 simp only [sq, sqRows, Bool.and_eq_true, beq_iff_eq, List.all_eq_true] at h
 have := h.2 l[k] (List.getElem_mem hk)
 omega
theorem table_any (vA nA gA tA okA rwA : Option Addr) (vc nn nc gn gc tn tc okc rwc : Nat) (vs : List Int) (t : Tab) (w : World) (hv : Cells w vA (ints vs)) (h1 : Mat w okA t.ok) (h2 : Mat w rwA t.rw)
    (hn1 : t.ok.length ≤ 4611686018427387904) (hn2 : t.rw.length ≤ 4611686018427387904) (hnv : vs.length ≤ 4611686018427387904) :
    Calls Tryz.prog 136 #[.agg #[.slice vA vs.length vc, .slice nA nn nc, .slice gA gn gc, .slice tA tn tc], .agg #[.int .i64 t.kind, .int .i64 t.frm, .int .i64 t.tto, .bool t.aware, .slice okA t.ok.length okc, .slice rwA t.rw.length rwc]] w
      fun e w' => e = .returned (.int .i64 (tabErr vs t)) ∧ Below w.heap.size w w' := by
  have HV := hid hv
  have HM1 := hid h1
  have HM2 := hid h2
  clear hv h1 h2
  by_cases hk : kindOK t.kind t.aware = true
  · by_cases hf : withinB t.frm vs.length = true
    · by_cases ht : withinB t.tto vs.length = true
      · obtain ⟨f0, f1⟩ : 0 ≤ t.frm ∧ t.frm < vs.length := by simpa [withinB] using hf
        obtain ⟨t0, t1⟩ : 0 ≤ t.tto ∧ t.tto < vs.length := by simpa [withinB] using ht
        obtain ⟨vb, voff, rfl, hvb, hfc⟩ := HV.out.at_int (k := t.frm.toNat) (by omega)
        obtain ⟨_, _, hvv, _, htc⟩ := HV.out.at_int (k := t.tto.toNat) (by omega)
        injection hvv with hvv
        injection hvv with e1 e2
        subst e1 e2
        have htab : tabErr vs t = if sq t.ok vs[t.frm.toNat] vs[t.tto.toNat] = false ∨ (t.kind = 4 ∧ sq t.rw vs[t.frm.toNat] vs[t.frm.toNat] = false) ∨ (¬ t.kind = 4 ∧ 0 < t.rw.length) then 6 else if diagFrom t.rw 0 = false then 1 else 0 := by
          unfold tabErr
          rw [if_neg (by simp [hk]), if_neg (by simp [hf, ht]), List.getD_eq_getElem?_getD, List.getD_eq_getElem?_getD, List.getElem?_eq_getElem (by omega), List.getElem?_eq_getElem (by omega)]
          rfl
        generalize vs[t.frm.toNat] = vfr at hfc htab
        generalize vs[t.tto.toNat] = vto at htc htab
        have Htab := hid htab
        clear htab
        by_cases hs : sq t.ok vfr vto = true
        · by_cases h4 : t.kind = 4
          · have h4' : (t.kind == 4) = true := by simpa using h4
            have H4 := hid h4
            clear h4
            by_cases hr : sq t.rw vfr vfr = true
            · have HR := hid (sq_rows hr)
              go_enter Tryz.func136, Tryz.ntmps136
              go_wp2_with fail
              refine (fkind_any _ _ _).mono ?_
              rintro e w1 ⟨rfl, hb1⟩
              obtain ⟨hc1, hf1⟩ := bcell hb1
              have hz1 := hb1.size
              try simp at hz1
              have z1_0 : w.heap.size < w1.heap.size := by omega
              have z1_1 : w.heap.size + 1 < w1.heap.size := by omega
              go_wp2_with fail
              refine (within_any _ _ _).mono ?_
              rintro e w2 ⟨rfl, hb2⟩
              obtain ⟨hc2, hf2⟩ := bcell hb2
              have hz2 := hb2.size
              try simp at hz2
              have z2_0 : w.heap.size < w2.heap.size := by omega
              have z2_1 : w.heap.size + 1 < w2.heap.size := by omega
              go_wp2_with fail
              refine (within_any _ _ _).mono ?_
              rintro e w3 ⟨rfl, hb3⟩
              obtain ⟨hc3, hf3⟩ := bcell hb3
              have hz3 := hb3.size
              try simp at hz3
              have z3_0 : w.heap.size < w3.heap.size := by omega
              have z3_1 : w.heap.size + 1 < w3.heap.size := by omega
              have B0 : Blk w3 w.heap.size 32 #[.slice (some ⟨vb, voff, none⟩) vs.length vc, .slice nA nn nc, .slice gA gn gc, .slice tA tn tc] := by (repeat (first | assumption | (with_reducible refine Blk.new' ?_; simp; done) | with_reducible refine Blk.alloc ?_ _ | with_reducible refine Blk.drew ?_ | with_reducible refine Blk.ext ?_ (by assumption)))
              have B1 : Blk w3 (w.heap.size + 1) 147 #[.int .i64 t.kind, .int .i64 t.frm, .int .i64 t.tto, .bool t.aware, .slice okA t.ok.length okc, .slice rwA t.rw.length rwc] := by (repeat (first | assumption | (with_reducible refine Blk.new' ?_; simp; done) | with_reducible refine Blk.alloc ?_ _ | with_reducible refine Blk.drew ?_ | with_reducible refine Blk.ext ?_ (by assumption)))
              have hx : Below w.heap.size w w3 := by (repeat (first | with_reducible exact ext_refl _ | with_reducible refine ext_alloc ?_ _ | with_reducible refine ext_set ?_ (by omega) _ | with_reducible refine ext_drew ?_ | with_reducible refine ext_step ?_ (by assumption)))
              have hfc3 : w3.cell? ⟨vb, voff + t.frm.toNat, none⟩ = some (.int .i64 vfr) := (hx.cell (p := ⟨vb, voff + t.frm.toNat, none⟩) hvb).trans hfc
              have htc3 : w3.cell? ⟨vb, voff + t.tto.toNat, none⟩ = some (.int .i64 vto) := (hx.cell (p := ⟨vb, voff + t.tto.toNat, none⟩) hvb).trans htc
              have k0 := gr_blk B0
              have k1 := gr_blk B1
              have k4 := gr_cell (Nat.lt_trans hvb z3_0) htc3
              go_wp2_with fail
              refine wp_region_gr (by kernel_rfl) (by kernel_rfl) ?_
              repeat (go_big_quiet_step (first | (go_at_call 161; with_reducible exact gr_of (matrix_eq okA _ _ _ _ true _ (HM1.out.ext (ext_step hx (Gr.ok _))) hn1 hs)) | (go_at_call 161; with_reducible exact gr_of (matrix_eq rwA _ _ _ _ true _ (HM2.out.ext (ext_step hx (Gr.ok _))) hn2 hr))))
              refine wpQuiet_nil ?_
              intro w4 hw'
              have hb4 := gr_out hw'
              clear hw'
              have hx4 : Below w.heap.size w w4 := ext_step hx hb4
              have B4 := B1.ext hb4
              have c4 := B4.cell
              clear k0 k1 k4 hc1 hf1 hc2 hf2 hc3 hf3
              go_wp2_with fail
              go_loopw [74] (fun iv wr => ∃ k : Nat, k ≤ t.rw.length ∧ iv = .int .i64 k ∧ Hid (diagFrom (t.rw.drop k) k = diagFrom t.rw 0) ∧ Below w.heap.size w wr ∧ Blk wr (w.heap.size + 1) 147 #[.int .i64 t.kind, .int .i64 t.frm, .int .i64 t.tto, .bool t.aware, .slice okA t.ok.length okc, .slice rwA t.rw.length rwc]) (fun iv _ => t.rw.length - (intOf iv).toNat)
              case atStart => exact ⟨0, Nat.zero_le _, rfl, rfl, hx4, B4⟩
              case round =>
                obtain ⟨k, hk, rfl, hS, hB, hT⟩ := hrel
                have cT := hT.cell
                by_cases hlt : k < t.rw.length
                · obtain ⟨b, off, rA, rc, rfl, hbl, q0, qc, _⟩ := HM2.out k hlt
                  have hrl : k < (t.rw[k]).length := HR.out k hlt
                  obtain ⟨rb, ro, rfl, hrb, q1⟩ := qc.at_bool hrl
                  have p0 := (hB.cell (p := ⟨b, off + k, none⟩) hbl).trans q0
                  have p1 := (hB.cell (p := ⟨rb, ro + k, none⟩) hrb).trans q1
                  have HD : Hid (diagFrom (t.rw.drop k) k = ((t.rw[k]).getD k false && diagFrom (t.rw.drop (k + 1)) (k + 1))) := by
                    show _ = _; rw [drop_cons hlt]; rfl
                  have HG : Hid ((t.rw[k]).getD k false = (t.rw[k])[k]) := by
                    show _ = _; rw [List.getD_eq_getElem?_getD, List.getElem?_eq_getElem hrl]; rfl
                  clear q0 q1 qc
                  generalize hbv : (t.rw[k])[k] = bv at p1 HG
                  have Hbv := hid hbv
                  clear hbv
                  cases bv
                  · go_wp2_with fail
                    go_ret
                    exact ⟨ret_int (by rw [Htab.out, if_neg (by simp [hs, hr, H4.out]), if_pos (by rw [← hS.out, HD.out, HG.out]; rfl)]), hB⟩
                  · go_wp2_with fail
                    go_roundw
                    case rel => exact ⟨k + 1, by omega, by go_num, by show _ = _; rw [← hS.out, HD.out, HG.out]; rfl, hB, hT⟩
                    case measure => simp [intOf]; omega
                · go_wp2_with fail
                  go_ret
                  refine ⟨ret_int ?_, hB⟩
                  rw [Htab.out, if_neg (by simp [hs, hr, H4.out]), if_neg]
                  rw [← hS.out, List.drop_eq_nil_of_le (by omega)]
                  simp [diagFrom]
            · have hr : sq t.rw vfr vfr = false := by simpa using hr
              go_enter Tryz.func136, Tryz.ntmps136
              go_wp2_with fail
              refine (fkind_any _ _ _).mono ?_
              rintro e w1 ⟨rfl, hb1⟩
              obtain ⟨hc1, hf1⟩ := bcell hb1
              have hz1 := hb1.size
              try simp at hz1
              have z1_0 : w.heap.size < w1.heap.size := by omega
              have z1_1 : w.heap.size + 1 < w1.heap.size := by omega
              go_wp2_with fail
              refine (within_any _ _ _).mono ?_
              rintro e w2 ⟨rfl, hb2⟩
              obtain ⟨hc2, hf2⟩ := bcell hb2
              have hz2 := hb2.size
              try simp at hz2
              have z2_0 : w.heap.size < w2.heap.size := by omega
              have z2_1 : w.heap.size + 1 < w2.heap.size := by omega
              go_wp2_with fail
              refine (within_any _ _ _).mono ?_
              rintro e w3 ⟨rfl, hb3⟩
              obtain ⟨hc3, hf3⟩ := bcell hb3
              have hz3 := hb3.size
              try simp at hz3
              have z3_0 : w.heap.size < w3.heap.size := by omega
              have z3_1 : w.heap.size + 1 < w3.heap.size := by omega
              have B0 : Blk w3 w.heap.size 32 #[.slice (some ⟨vb, voff, none⟩) vs.length vc, .slice nA nn nc, .slice gA gn gc, .slice tA tn tc] := by (repeat (first | assumption | (with_reducible refine Blk.new' ?_; simp; done) | with_reducible refine Blk.alloc ?_ _ | with_reducible refine Blk.drew ?_ | with_reducible refine Blk.ext ?_ (by assumption)))
              have B1 : Blk w3 (w.heap.size + 1) 147 #[.int .i64 t.kind, .int .i64 t.frm, .int .i64 t.tto, .bool t.aware, .slice okA t.ok.length okc, .slice rwA t.rw.length rwc] := by (repeat (first | assumption | (with_reducible refine Blk.new' ?_; simp; done) | with_reducible refine Blk.alloc ?_ _ | with_reducible refine Blk.drew ?_ | with_reducible refine Blk.ext ?_ (by assumption)))
              have hx : Below w.heap.size w w3 := by (repeat (first | with_reducible exact ext_refl _ | with_reducible refine ext_alloc ?_ _ | with_reducible refine ext_set ?_ (by omega) _ | with_reducible refine ext_drew ?_ | with_reducible refine ext_step ?_ (by assumption)))
              have hfc3 : w3.cell? ⟨vb, voff + t.frm.toNat, none⟩ = some (.int .i64 vfr) := (hx.cell (p := ⟨vb, voff + t.frm.toNat, none⟩) hvb).trans hfc
              have htc3 : w3.cell? ⟨vb, voff + t.tto.toNat, none⟩ = some (.int .i64 vto) := (hx.cell (p := ⟨vb, voff + t.tto.toNat, none⟩) hvb).trans htc
              have k0 := gr_blk B0
              have k1 := gr_blk B1
              have k4 := gr_cell (Nat.lt_trans hvb z3_0) htc3
              go_wp2_with fail
              refine wp_region_gr (by kernel_rfl) (by kernel_rfl) ?_
              repeat (go_big_quiet_step (first | (go_at_call 161; with_reducible exact gr_of (matrix_eq okA _ _ _ _ true _ (HM1.out.ext (ext_step hx (Gr.ok _))) hn1 hs)) | (go_at_call 161; with_reducible exact gr_of (matrix_eq rwA _ _ _ _ false _ (HM2.out.ext (ext_step hx (Gr.ok _))) hn2 hr))))
              refine wpQuiet_nil ?_
              intro w4 hw'
              have hb4 := gr_out hw'
              clear hw'
              have hx4 : Below w.heap.size w w4 := ext_step hx hb4
              have B4 := B1.ext hb4
              have c4 := B4.cell
              clear k0 k1 k4 hc1 hf1 hc2 hf2 hc3 hf3
              go_wp2_with fail
              go_ret
              exact ⟨ret_int (by rw [Htab.out, if_pos (by exact .inr (.inl ⟨H4.out, hr⟩))]), hx4⟩
          · have h4' : (t.kind == 4) = false := by simpa using h4
            have H4 := hid h4
            clear h4
            by_cases hr : 0 < t.rw.length
            · have hr' : decide (0 < (t.rw.length : Int)) = true := by simpa using hr
              go_enter Tryz.func136, Tryz.ntmps136
              go_wp2_with fail
              refine (fkind_any _ _ _).mono ?_
              rintro e w1 ⟨rfl, hb1⟩
              obtain ⟨hc1, hf1⟩ := bcell hb1
              have hz1 := hb1.size
              try simp at hz1
              have z1_0 : w.heap.size < w1.heap.size := by omega
              have z1_1 : w.heap.size + 1 < w1.heap.size := by omega
              go_wp2_with fail
              refine (within_any _ _ _).mono ?_
              rintro e w2 ⟨rfl, hb2⟩
              obtain ⟨hc2, hf2⟩ := bcell hb2
              have hz2 := hb2.size
              try simp at hz2
              have z2_0 : w.heap.size < w2.heap.size := by omega
              have z2_1 : w.heap.size + 1 < w2.heap.size := by omega
              go_wp2_with fail
              refine (within_any _ _ _).mono ?_
              rintro e w3 ⟨rfl, hb3⟩
              obtain ⟨hc3, hf3⟩ := bcell hb3
              have hz3 := hb3.size
              try simp at hz3
              have z3_0 : w.heap.size < w3.heap.size := by omega
              have z3_1 : w.heap.size + 1 < w3.heap.size := by omega
              have B0 : Blk w3 w.heap.size 32 #[.slice (some ⟨vb, voff, none⟩) vs.length vc, .slice nA nn nc, .slice gA gn gc, .slice tA tn tc] := by (repeat (first | assumption | (with_reducible refine Blk.new' ?_; simp; done) | with_reducible refine Blk.alloc ?_ _ | with_reducible refine Blk.drew ?_ | with_reducible refine Blk.ext ?_ (by assumption)))
              have B1 : Blk w3 (w.heap.size + 1) 147 #[.int .i64 t.kind, .int .i64 t.frm, .int .i64 t.tto, .bool t.aware, .slice okA t.ok.length okc, .slice rwA t.rw.length rwc] := by (repeat (first | assumption | (with_reducible refine Blk.new' ?_; simp; done) | with_reducible refine Blk.alloc ?_ _ | with_reducible refine Blk.drew ?_ | with_reducible refine Blk.ext ?_ (by assumption)))
              have hx : Below w.heap.size w w3 := by (repeat (first | with_reducible exact ext_refl _ | with_reducible refine ext_alloc ?_ _ | with_reducible refine ext_set ?_ (by omega) _ | with_reducible refine ext_drew ?_ | with_reducible refine ext_step ?_ (by assumption)))
              have hfc3 : w3.cell? ⟨vb, voff + t.frm.toNat, none⟩ = some (.int .i64 vfr) := (hx.cell (p := ⟨vb, voff + t.frm.toNat, none⟩) hvb).trans hfc
              have htc3 : w3.cell? ⟨vb, voff + t.tto.toNat, none⟩ = some (.int .i64 vto) := (hx.cell (p := ⟨vb, voff + t.tto.toNat, none⟩) hvb).trans htc
              have k0 := gr_blk B0
              have k1 := gr_blk B1
              have k4 := gr_cell (Nat.lt_trans hvb z3_0) htc3
              go_wp2_with fail
              refine wp_region_gr (by kernel_rfl) (by kernel_rfl) ?_
              repeat (go_big_quiet_step (first | (go_at_call 161; with_reducible exact gr_of (matrix_eq okA _ _ _ _ true _ (HM1.out.ext (ext_step hx (Gr.ok _))) hn1 hs))))
              refine wpQuiet_nil ?_
              intro w4 hw'
              have hb4 := gr_out hw'
              clear hw'
              have hx4 : Below w.heap.size w w4 := ext_step hx hb4
              have B4 := B1.ext hb4
              have c4 := B4.cell
              clear k0 k1 k4 hc1 hf1 hc2 hf2 hc3 hf3
              go_wp2_with fail
              go_ret
              exact ⟨ret_int (by rw [Htab.out, if_pos (by exact .inr (.inr ⟨H4.out, hr⟩))]), hx4⟩
            · have hr' : decide (0 < (t.rw.length : Int)) = false := by simpa using hr
              have HR : Hid (∀ k (hk : k < t.rw.length), k < (t.rw[k]).length) := fun k hk => absurd hk (by omega)
              go_enter Tryz.func136, Tryz.ntmps136
              go_wp2_with fail
              refine (fkind_any _ _ _).mono ?_
              rintro e w1 ⟨rfl, hb1⟩
              obtain ⟨hc1, hf1⟩ := bcell hb1
              have hz1 := hb1.size
              try simp at hz1
              have z1_0 : w.heap.size < w1.heap.size := by omega
              have z1_1 : w.heap.size + 1 < w1.heap.size := by omega
              go_wp2_with fail
              refine (within_any _ _ _).mono ?_
              rintro e w2 ⟨rfl, hb2⟩
              obtain ⟨hc2, hf2⟩ := bcell hb2
              have hz2 := hb2.size
              try simp at hz2
              have z2_0 : w.heap.size < w2.heap.size := by omega
              have z2_1 : w.heap.size + 1 < w2.heap.size := by omega
              go_wp2_with fail
              refine (within_any _ _ _).mono ?_
              rintro e w3 ⟨rfl, hb3⟩
              obtain ⟨hc3, hf3⟩ := bcell hb3
              have hz3 := hb3.size
              try simp at hz3
              have z3_0 : w.heap.size < w3.heap.size := by omega
              have z3_1 : w.heap.size + 1 < w3.heap.size := by omega
              have B0 : Blk w3 w.heap.size 32 #[.slice (some ⟨vb, voff, none⟩) vs.length vc, .slice nA nn nc, .slice gA gn gc, .slice tA tn tc] := by (repeat (first | assumption | (with_reducible refine Blk.new' ?_; simp; done) | with_reducible refine Blk.alloc ?_ _ | with_reducible refine Blk.drew ?_ | with_reducible refine Blk.ext ?_ (by assumption)))
              have B1 : Blk w3 (w.heap.size + 1) 147 #[.int .i64 t.kind, .int .i64 t.frm, .int .i64 t.tto, .bool t.aware, .slice okA t.ok.length okc, .slice rwA t.rw.length rwc] := by (repeat (first | assumption | (with_reducible refine Blk.new' ?_; simp; done) | with_reducible refine Blk.alloc ?_ _ | with_reducible refine Blk.drew ?_ | with_reducible refine Blk.ext ?_ (by assumption)))
              have hx : Below w.heap.size w w3 := by (repeat (first | with_reducible exact ext_refl _ | with_reducible refine ext_alloc ?_ _ | with_reducible refine ext_set ?_ (by omega) _ | with_reducible refine ext_drew ?_ | with_reducible refine ext_step ?_ (by assumption)))
              have hfc3 : w3.cell? ⟨vb, voff + t.frm.toNat, none⟩ = some (.int .i64 vfr) := (hx.cell (p := ⟨vb, voff + t.frm.toNat, none⟩) hvb).trans hfc
              have htc3 : w3.cell? ⟨vb, voff + t.tto.toNat, none⟩ = some (.int .i64 vto) := (hx.cell (p := ⟨vb, voff + t.tto.toNat, none⟩) hvb).trans htc
              have k0 := gr_blk B0
              have k1 := gr_blk B1
              have k4 := gr_cell (Nat.lt_trans hvb z3_0) htc3
              go_wp2_with fail
              refine wp_region_gr (by kernel_rfl) (by kernel_rfl) ?_
              repeat (go_big_quiet_step (first | (go_at_call 161; with_reducible exact gr_of (matrix_eq okA _ _ _ _ true _ (HM1.out.ext (ext_step hx (Gr.ok _))) hn1 hs))))
              refine wpQuiet_nil ?_
              intro w4 hw'
              have hb4 := gr_out hw'
              clear hw'
              have hx4 : Below w.heap.size w w4 := ext_step hx hb4
              have B4 := B1.ext hb4
              have c4 := B4.cell
              clear k0 k1 k4 hc1 hf1 hc2 hf2 hc3 hf3
              have HF : Hid (¬ (sq t.ok vfr vto = false ∨ (t.kind = 4 ∧ sq t.rw vfr vfr = false) ∨ (¬ t.kind = 4 ∧ 0 < t.rw.length))) := by
                show ¬ _
                rintro (h | ⟨h, _⟩ | ⟨_, h⟩)
                · rw [hs] at h; cases h
                · exact H4.out h
                · omega
              go_wp2_with fail
              go_loopw [74] (fun iv wr => ∃ k : Nat, k ≤ t.rw.length ∧ iv = .int .i64 k ∧ Hid (diagFrom (t.rw.drop k) k = diagFrom t.rw 0) ∧ Below w.heap.size w wr ∧ Blk wr (w.heap.size + 1) 147 #[.int .i64 t.kind, .int .i64 t.frm, .int .i64 t.tto, .bool t.aware, .slice okA t.ok.length okc, .slice rwA t.rw.length rwc]) (fun iv _ => t.rw.length - (intOf iv).toNat)
              case atStart => exact ⟨0, Nat.zero_le _, rfl, rfl, hx4, B4⟩
              case round =>
                obtain ⟨k, hk, rfl, hS, hB, hT⟩ := hrel
                have cT := hT.cell
                by_cases hlt : k < t.rw.length
                · exact absurd hlt (by omega)
                · go_wp2_with fail
                  go_ret
                  refine ⟨ret_int ?_, hB⟩
                  rw [Htab.out, if_neg (by exact HF.out), if_neg]
                  rw [← hS.out, List.drop_eq_nil_of_le (by omega)]
                  simp [diagFrom]
        · have hs : sq t.ok vfr vto = false := by simpa using hs
          go_enter Tryz.func136, Tryz.ntmps136
          go_wp2_with fail
          refine (fkind_any _ _ _).mono ?_
          rintro e w1 ⟨rfl, hb1⟩
          obtain ⟨hc1, hf1⟩ := bcell hb1
          have hz1 := hb1.size
          try simp at hz1
          have z1_0 : w.heap.size < w1.heap.size := by omega
          have z1_1 : w.heap.size + 1 < w1.heap.size := by omega
          go_wp2_with fail
          refine (within_any _ _ _).mono ?_
          rintro e w2 ⟨rfl, hb2⟩
          obtain ⟨hc2, hf2⟩ := bcell hb2
          have hz2 := hb2.size
          try simp at hz2
          have z2_0 : w.heap.size < w2.heap.size := by omega
          have z2_1 : w.heap.size + 1 < w2.heap.size := by omega
          go_wp2_with fail
          refine (within_any _ _ _).mono ?_
          rintro e w3 ⟨rfl, hb3⟩
          obtain ⟨hc3, hf3⟩ := bcell hb3
          have hz3 := hb3.size
          try simp at hz3
          have z3_0 : w.heap.size < w3.heap.size := by omega
          have z3_1 : w.heap.size + 1 < w3.heap.size := by omega
          have B0 : Blk w3 w.heap.size 32 #[.slice (some ⟨vb, voff, none⟩) vs.length vc, .slice nA nn nc, .slice gA gn gc, .slice tA tn tc] := by (repeat (first | assumption | (with_reducible refine Blk.new' ?_; simp; done) | with_reducible refine Blk.alloc ?_ _ | with_reducible refine Blk.drew ?_ | with_reducible refine Blk.ext ?_ (by assumption)))
          have B1 : Blk w3 (w.heap.size + 1) 147 #[.int .i64 t.kind, .int .i64 t.frm, .int .i64 t.tto, .bool t.aware, .slice okA t.ok.length okc, .slice rwA t.rw.length rwc] := by (repeat (first | assumption | (with_reducible refine Blk.new' ?_; simp; done) | with_reducible refine Blk.alloc ?_ _ | with_reducible refine Blk.drew ?_ | with_reducible refine Blk.ext ?_ (by assumption)))
          have hx : Below w.heap.size w w3 := by (repeat (first | with_reducible exact ext_refl _ | with_reducible refine ext_alloc ?_ _ | with_reducible refine ext_set ?_ (by omega) _ | with_reducible refine ext_drew ?_ | with_reducible refine ext_step ?_ (by assumption)))
          have hfc3 : w3.cell? ⟨vb, voff + t.frm.toNat, none⟩ = some (.int .i64 vfr) := (hx.cell (p := ⟨vb, voff + t.frm.toNat, none⟩) hvb).trans hfc
          have htc3 : w3.cell? ⟨vb, voff + t.tto.toNat, none⟩ = some (.int .i64 vto) := (hx.cell (p := ⟨vb, voff + t.tto.toNat, none⟩) hvb).trans htc
          have k0 := gr_blk B0
          have k1 := gr_blk B1
          have k4 := gr_cell (Nat.lt_trans hvb z3_0) htc3
          go_wp2_with fail
          refine wp_region_gr (by kernel_rfl) (by kernel_rfl) ?_
          repeat (go_big_quiet_step (first | (go_at_call 161; with_reducible exact gr_of (matrix_eq okA _ _ _ _ false _ (HM1.out.ext (ext_step hx (Gr.ok _))) hn1 hs))))
          refine wpQuiet_nil ?_
          intro w4 hw'
          have hb4 := gr_out hw'
          clear hw'
          have hx4 : Below w.heap.size w w4 := ext_step hx hb4
          have B4 := B1.ext hb4
          have c4 := B4.cell
          clear k0 k1 k4 hc1 hf1 hc2 hf2 hc3 hf3
          go_wp2_with fail
          go_ret
          exact ⟨ret_int (by rw [Htab.out, if_pos (by exact .inl hs)]), hx4⟩
      · have ht' : withinB t.tto vs.length = false := by simpa using ht
        clear ht
        go_enter Tryz.func136, Tryz.ntmps136
        go_wp2_with fail
        refine (fkind_any _ _ _).mono ?_
        rintro e w1 ⟨rfl, hb1⟩
        obtain ⟨hc1, hf1⟩ := bcell hb1
        have hz1 := hb1.size
        try simp at hz1
        have z1_0 : w.heap.size < w1.heap.size := by omega
        have z1_1 : w.heap.size + 1 < w1.heap.size := by omega
        go_wp2_with fail
        refine (within_any _ _ _).mono ?_
        rintro e w2 ⟨rfl, hb2⟩
        obtain ⟨hc2, hf2⟩ := bcell hb2
        have hz2 := hb2.size
        try simp at hz2
        have z2_0 : w.heap.size < w2.heap.size := by omega
        have z2_1 : w.heap.size + 1 < w2.heap.size := by omega
        go_wp2_with fail
        refine (within_any _ _ _).mono ?_
        rintro e w3 ⟨rfl, hb3⟩
        obtain ⟨hc3, hf3⟩ := bcell hb3
        have hz3 := hb3.size
        try simp at hz3
        have z3_0 : w.heap.size < w3.heap.size := by omega
        have z3_1 : w.heap.size + 1 < w3.heap.size := by omega
        go_wp2_with fail
        go_ret
        refine ⟨ret_int (by unfold tabErr; rw [if_neg (by simp [hk]), if_pos (Or.inr ht')]), ?_⟩
        (repeat (first | with_reducible exact ext_refl _ | with_reducible refine ext_alloc ?_ _ | with_reducible refine ext_set ?_ (by omega) _ | with_reducible refine ext_drew ?_ | with_reducible refine ext_step ?_ (by assumption)))
    · have hf' : withinB t.frm vs.length = false := by simpa using hf
      clear hf
      go_enter Tryz.func136, Tryz.ntmps136
      go_wp2_with fail
      refine (fkind_any _ _ _).mono ?_
      rintro e w1 ⟨rfl, hb1⟩
      obtain ⟨hc1, hf1⟩ := bcell hb1
      have hz1 := hb1.size
      try simp at hz1
      have z1_0 : w.heap.size < w1.heap.size := by omega
      have z1_1 : w.heap.size + 1 < w1.heap.size := by omega
      go_wp2_with fail
      refine (within_any _ _ _).mono ?_
      rintro e w2 ⟨rfl, hb2⟩
      obtain ⟨hc2, hf2⟩ := bcell hb2
      have hz2 := hb2.size
      try simp at hz2
      have z2_0 : w.heap.size < w2.heap.size := by omega
      have z2_1 : w.heap.size + 1 < w2.heap.size := by omega
      go_wp2_with fail
      go_ret
      refine ⟨ret_int (by unfold tabErr; rw [if_neg (by simp [hk]), if_pos (Or.inl hf')]), ?_⟩
      (repeat (first | with_reducible exact ext_refl _ | with_reducible refine ext_alloc ?_ _ | with_reducible refine ext_set ?_ (by omega) _ | with_reducible refine ext_drew ?_ | with_reducible refine ext_step ?_ (by assumption)))
  · have hk' : kindOK t.kind t.aware = false := by simpa using hk
    clear hk
    go_enter Tryz.func136, Tryz.ntmps136
    go_wp2_with fail
    refine (fkind_any _ _ _).mono ?_
    rintro e w1 ⟨rfl, hb1⟩
    obtain ⟨hc1, hf1⟩ := bcell hb1
    have hz1 := hb1.size
    try simp at hz1
    have z1_0 : w.heap.size < w1.heap.size := by omega
    have z1_1 : w.heap.size + 1 < w1.heap.size := by omega
    go_wp2_with fail
    go_ret
    refine ⟨ret_int (by unfold tabErr; rw [if_pos hk']), ?_⟩
    (repeat (first | with_reducible exact ext_refl _ | with_reducible refine ext_alloc ?_ _ | with_reducible refine ext_set ?_ (by omega) _ | with_reducible refine ext_drew ?_ | with_reducible refine ext_step ?_ (by assumption)))
end Go.Proofs.YtbdjcgjdmhgnmaaGreat
namespace Go.Proofs.YtbdjcgjdmhgnmaaGreat
open Go.RowKit
set_option linter.unusedSimpArgs false
set_option linter.unusedVariables false
set_option maxHeartbeats 4000000
set_option maxRecDepth 100000
theorem rng_step {vs now tgt : List Int} {k : Nat} (h0 : k < vs.length) (h1 : k < now.length) (h2 : k < tgt.length) :
    rngOK (vs.drop k) (now.drop k) (tgt.drop k) = ((decide (1 ≤ vs[k] ∧ vs[k] ≤ 6) && withinB now[k] vs[k] && withinB tgt[k] vs[k]) && rngOK (vs.drop (k + 1)) (now.drop (k + 1)) (tgt.drop (k + 1))) := by
  rw [drop_cons h0, drop_cons h1, drop_cons h2]; rfl
theorem tabsE_step {vs : List Int} {ts : List Tab} {k : Nat} (h : k < ts.length) : tabsErr vs (ts.drop k) = if tabErr vs ts[k] ≠ 0 then tabErr vs ts[k] else tabsErr vs (ts.drop (k + 1)) := by
 rw [drop_cons h]; rfl
theorem validProblem_any (v : Value) (p : Prob) (w : World) (hp : ProbAt w v p) :
    Calls Tryz.prog 96 #[v] w fun e w' => e = .returned (.int .i64 (vpErr p)) ∧ Below w.heap.size w w' := by
  obtain ⟨vA, vc, nA, nc, gA, gc, tA, tc, rfl, hv, hn, hg, ht, l0, l1, l2, l3⟩ := hp
  have HV := hid hv
  have HN := hid hn
  have HG := hid hg
  have HT := hid ht
  clear hv hn hg ht
  by_cases c1 : 6 < p.vs.length
  · go_enter Tryz.func96, Tryz.ntmps96
    go_wp2_with fail
    go_ret
    refine ⟨ret_int (by unfold vpErr; rw [if_pos (Or.inl c1)]), ?_⟩
    (repeat (first | with_reducible exact ext_refl _ | with_reducible refine ext_alloc ?_ _ | with_reducible refine ext_set ?_ (by omega) _ | with_reducible refine ext_drew ?_ | with_reducible refine ext_step ?_ (by assumption)))
  by_cases c2 : 12 < p.tabs.length
  · go_enter Tryz.func96, Tryz.ntmps96
    go_wp2_with fail
    go_ret
    refine ⟨ret_int (by unfold vpErr; rw [if_pos (Or.inr c2)]), ?_⟩
    (repeat (first | with_reducible exact ext_refl _ | with_reducible refine ext_alloc ?_ _ | with_reducible refine ext_set ?_ (by omega) _ | with_reducible refine ext_drew ?_ | with_reducible refine ext_step ?_ (by assumption)))
  by_cases c3 : p.now.length = p.vs.length
  rotate_left
  · have c3' : ((p.now.length : Int) != p.vs.length) = true := by simp; omega
    go_enter Tryz.func96, Tryz.ntmps96
    go_wp2_with fail
    go_ret
    refine ⟨ret_int (by unfold vpErr; rw [if_neg (by omega), if_pos (Or.inl c3)]), ?_⟩
    (repeat (first | with_reducible exact ext_refl _ | with_reducible refine ext_alloc ?_ _ | with_reducible refine ext_set ?_ (by omega) _ | with_reducible refine ext_drew ?_ | with_reducible refine ext_step ?_ (by assumption)))
  by_cases c4 : p.tgt.length = p.vs.length
  rotate_left
  · have c3' : ((p.now.length : Int) != p.vs.length) = false := by simp; omega
    have c4' : ((p.tgt.length : Int) != p.vs.length) = true := by simp; omega
    have C3 := hid c3
    clear c3
    go_enter Tryz.func96, Tryz.ntmps96
    go_wp2_with fail
    go_ret
    refine ⟨ret_int (by unfold vpErr; rw [if_neg (by omega), if_pos (Or.inr c4)]), ?_⟩
    (repeat (first | with_reducible exact ext_refl _ | with_reducible refine ext_alloc ?_ _ | with_reducible refine ext_set ?_ (by omega) _ | with_reducible refine ext_drew ?_ | with_reducible refine ext_step ?_ (by assumption)))
  have c3' : ((p.now.length : Int) != p.vs.length) = false := by simp; omega
  have c4' : ((p.tgt.length : Int) != p.vs.length) = false := by simp; omega
  have d3 : p.vs.length ≤ p.now.length := by omega
  have d4 : p.vs.length ≤ p.tgt.length := by omega
  have hvp : vpErr p = if rngOK p.vs p.now p.tgt = false then 7 else tabsErr p.vs p.tabs := by
    unfold vpErr; rw [if_neg (by omega), if_neg (by omega)]
  have Hvp := hid hvp
  have C3 := hid c3
  have C4 := hid c4
  clear hvp c3 c4
  go_enter Tryz.func96, Tryz.ntmps96
  go_wp2_with fail
  go_loopw [35] (fun iv wr => ∃ k : Nat, k ≤ p.vs.length ∧ iv = .int .i64 k ∧ Hid (rngOK (p.vs.drop k) (p.now.drop k) (p.tgt.drop k) = rngOK p.vs p.now p.tgt) ∧ Below w.heap.size w wr ∧
    Blk wr w.heap.size 32 #[.slice vA p.vs.length vc, .slice nA p.now.length nc, .slice gA p.tgt.length gc, .slice tA p.tabs.length tc]) (fun iv _ => p.vs.length - (intOf iv).toNat)
  case atStart => exact ⟨0, Nat.zero_le _, rfl, rfl, ext_alloc (ext_refl _) _, Blk.new _ _ _⟩
  case round =>
    obtain ⟨k, hk, rfl, hS, hB, hP⟩ := hrel
    have zP := hP.lt
    have cP := hP.cell
    by_cases hlt : k < p.vs.length
    · obtain ⟨b0, o0, rfl, hb0, q0⟩ := HV.out.at_int hlt
      obtain ⟨b1, o1, rfl, hb1, q1⟩ := HN.out.at_int (k := k) (by omega)
      obtain ⟨b2, o2, rfl, hb2, q2⟩ := HG.out.at_int (k := k) (by omega)
      have HD := hid (rng_step hlt (show k < p.now.length by omega) (show k < p.tgt.length by omega))
      have p0 := gr_cell0 hB hb0 q0
      have p1 := gr_cell0 hB hb1 q1
      have p2 := gr_cell0 hB hb2 q2
      clear q0 q1 q2
      generalize p.vs[k] = n0 at p0 HD
      generalize p.now[k] = a0 at p1 HD
      generalize p.tgt[k] = t0 at p2 HD
      by_cases g1 : n0 < 1
      · go_wp2_with fail
        go_ret
        exact ⟨ret_int (by rw [Hvp.out, if_pos (by rw [← hS.out, HD.out]; simp; omega)]), hB⟩
      by_cases g2 : 6 < n0
      · go_wp2_with fail
        go_ret
        exact ⟨ret_int (by rw [Hvp.out, if_pos (by rw [← hS.out, HD.out]; simp; omega)]), hB⟩
      by_cases g3 : withinB a0 n0 = true
      rotate_left
      · have g3' : withinB a0 n0 = false := by simpa using g3
        clear g3
        go_wp2_with fail
        refine (within_any _ _ _).mono ?_
        rintro e w1 ⟨rfl, hb1⟩
        obtain ⟨hc1, hf1⟩ := bcell hb1
        have hz1 := hb1.size
        try simp at hz1
        have z1_0 : w.heap.size < w1.heap.size := by omega
        go_wp2_with fail
        go_ret
        exact ⟨ret_int (by rw [Hvp.out, if_pos (by rw [← hS.out, HD.out]; simp [g3'])]), ext_step hB hb1⟩
      have P1 := hid p1
      have P2 := hid p2
      go_wp2_with fail
      refine (within_any _ _ _).mono ?_
      rintro e w3 ⟨rfl, hb3⟩
      obtain ⟨hc3, hf3⟩ := bcell hb3
      have hz3 := hb3.size
      try simp at hz3
      have z3_0 : w.heap.size < w3.heap.size := by omega
      have cP3 := (hP.ext hb3).cell
      have p2' := ext_cell hb3 (Nat.lt_of_lt_of_le hb2 hB.size) P2.out
      by_cases g4 : withinB t0 n0 = true
      rotate_left
      · have g4' : withinB t0 n0 = false := by simpa using g4
        clear g4
        go_wp2_with fail
        refine (within_any _ _ _).mono ?_
        rintro e w4 ⟨rfl, hb4⟩
        obtain ⟨hc4, hf4⟩ := bcell hb4
        have hz4 := hb4.size
        try simp at hz4
        have z4_0 : w.heap.size < w4.heap.size := by omega
        go_wp2_with fail
        go_ret
        exact ⟨ret_int (by rw [Hvp.out, if_pos (by rw [← hS.out, HD.out]; simp [g4'])]), ext_step (ext_step hB hb3) hb4⟩
      go_wp2_with fail
      refine (within_any _ _ _).mono ?_
      rintro e w4 ⟨rfl, hb4⟩
      obtain ⟨hc4, hf4⟩ := bcell hb4
      have hz4 := hb4.size
      try simp at hz4
      have z4_0 : w.heap.size < w4.heap.size := by omega
      go_wp2_with fail
      go_roundw
      case rel => exact ⟨k + 1, by omega, by go_num, by show _ = _; rw [← hS.out, HD.out]; simp [g3, g4]; omega, ext_step (ext_step hB hb3) hb4, (hP.ext hb3).ext hb4⟩
      case measure => simp [intOf]; omega
    · have HR : Hid (rngOK p.vs p.now p.tgt = true) := by
        show _ = _; rw [← hS.out, List.drop_eq_nil_of_le (by omega)]; rfl
      clear hS
      go_wp2_with fail
      obtain ⟨wo, hwo⟩ : ∃ wo : World, wo = wr := ⟨_, rfl⟩
      clear hwo
      go_loopw [70] (fun iv wi => ∃ k : Nat, k ≤ p.tabs.length ∧ iv = .int .i64 k ∧ Hid (tabsErr p.vs (p.tabs.drop k) = tabsErr p.vs p.tabs) ∧ Below w.heap.size w wi ∧ Blk wi w.heap.size 32 #[.slice vA p.vs.length vc, .slice nA p.now.length nc, .slice gA p.tgt.length gc, .slice tA p.tabs.length tc]) (fun iv _ => p.tabs.length - (intOf iv).toNat)
      case atStart => exact ⟨0, Nat.zero_le _, rfl, rfl, hB, hP⟩
      case round =>
        obtain ⟨j, hj, rfl, hS, hBi, hPi⟩ := hrel
        have zPi := hPi.lt
        have cPi := hPi.cell
        by_cases hjl : j < p.tabs.length
        · obtain ⟨b, off, okA, okc, rwA, rwc, rfl, hbl, q0, q1, q2, q3, q4, q5, hm1, hm2, hn1, hn2⟩ := HT.out j hjl
          have HD := hid (tabsE_step (vs := p.vs) hjl)
          have p0 := gr_cell0 hBi hbl q0
          have p1 := gr_cell0 hBi hbl q1
          have p2 := gr_cell0 hBi hbl q2
          have p3 := gr_cell0 hBi hbl q3
          have p4 := gr_cell0 hBi hbl q4
          have p5 := gr_cell0 hBi hbl q5
          have HM1 := hid hm1
          have HM2 := hid hm2
          clear q0 q1 q2 q3 q4 q5 hm1 hm2
          generalize p.tabs[j] = tb at p0 p1 p2 p3 p4 p5 HM1 HM2 HD hn1 hn2
          have HBi := hid hBi
          clear hBi
          go_wp2_with fail
          refine (table_any _ _ _ _ _ _ _ _ _ _ _ _ _ _ _ _ tb _ (HV.out.ext (ext_alloc HBi.out _)) (HM1.out.ext (ext_alloc HBi.out _)) (HM2.out.ext (ext_alloc HBi.out _)) hn1 hn2 l0).mono ?_
          rintro e w2 ⟨rfl, hb2⟩
          by_cases ht : tabErr p.vs tb = 0
          · have ht' : (tabErr p.vs tb != 0) = false := by simpa using ht
            have Ht := hid ht
            clear ht
            go_wp2_with fail
            go_roundw
            case rel => exact ⟨j + 1, by omega, by go_num, by show _ = _; rw [← hS.out, HD.out, if_neg (by simp [Ht.out])], ext_step (ext_alloc HBi.out _) hb2, (hPi.alloc _).ext hb2⟩
            case measure => simp [intOf]; omega
          · have ht' : (tabErr p.vs tb != 0) = true := by simpa using ht
            have Ht := hid ht
            clear ht
            go_wp2_with fail
            go_ret
            exact ⟨ret_int (by rw [Hvp.out, if_neg (by simp [HR.out]), ← hS.out, HD.out, if_pos Ht.out]), ext_step (ext_alloc HBi.out _) hb2⟩
        · go_wp2_with fail
          go_ret
          exact ⟨ret_int (by rw [Hvp.out, if_neg (by simp [HR.out]), ← hS.out, List.drop_eq_nil_of_le (by omega)]; rfl), hBi⟩
end Go.Proofs.YtbdjcgjdmhgnmaaGreat

namespace Go.Proofs.YtbdjcgjdmhgnmaaGreat
open Go Go.RowKit
set_option linter.unusedSimpArgs false
set_option linter.unusedVariables false
section
variable {S : Nat → Prop} {w : World} {v : Value}
theorem rdp_cells {α : Type} {f : α → Value} {xs : List α} (h : Rd S w (.sl 1 (xs.map fun x => [.v (f x)])) v) : ∃ A c, v = .slice A xs.length c ∧ Cells w A (xs.map f) ∧ xs.length ≤ 4611686018427387904 := by
 cases h with
 | @sl _ _ A c b o cv hc hb hA hl hcell hr =>
  refine ⟨A, c, by simp, fun j hj => ?_, by simpa using hb⟩
  have hj' : j < xs.length := by simpa using hj
  have hrow : (xs.map fun x => [D.v (f x)])[j]? = some [.v (f xs[j])] := by simp [hj']
  obtain ⟨h1, h2, _⟩ := hA (ne_nil_of_get hrow)
  have hc0 := hcell j _ 0 _ hrow rfl
  have hr0 := hr j _ 0 _ hrow rfl
  simp only [Nat.mul_one, Nat.add_zero] at hc0
  refine ⟨b, o, h1, h2, ?_⟩
  rw [hc0, hr0.val.1]
  simp
theorem rdp_mat {m : List (List Bool)} (h : Rd S w (.sl 1 (dMat m)) v) : ∃ A c, v = .slice A m.length c ∧ Mat w A m ∧ m.length ≤ 4611686018427387904 := by
 unfold dMat at h
 cases h with
 | @sl _ _ A c b o cv hc hb hA hl hcell hr =>
  refine ⟨A, c, by simp, fun j hj => ?_, by simpa using hb⟩
  have hrow : (m.map fun r => [D.sl 1 (dBools r)])[j]? = some [.sl 1 (dBools m[j])] := by simp [hj]
  obtain ⟨h1, h2, _⟩ := hA (ne_nil_of_get hrow)
  have hc0 := hcell j _ 0 _ hrow rfl
  have hr0 := hr j _ 0 _ hrow rfl
  simp only [Nat.mul_one, Nat.add_zero] at hc0
  obtain ⟨A2, c2, e2, hC2, hl2⟩ := rdp_cells (f := Value.bool) (xs := m[j]) hr0
  exact ⟨b, o, A2, c2, h1, h2, by rw [hc0, e2], hC2, hl2⟩
theorem rdp_tabs {ts : List Tab} (h : Rd S w (.sl 6 (dTabs ts)) v) : ∃ A c, v = .slice A ts.length c ∧ Tabs w A ts ∧ ts.length ≤ 4611686018427387904 := by
 unfold dTabs at h
 cases h with
 | @sl _ _ A c b o cv hc hb hA hl hcell hr =>
  refine ⟨A, c, by simp, fun j hj => ?_, by simpa using hb⟩
  have hrow : (ts.map tabRow)[j]? = some (tabRow ts[j]) := by simp [hj]
  obtain ⟨h1, h2, _⟩ := hA (ne_nil_of_get hrow)
  have c0 := hcell j _ 0 _ hrow rfl
  have c1 := hcell j _ 1 _ hrow rfl
  have c2 := hcell j _ 2 _ hrow rfl
  have c3 := hcell j _ 3 _ hrow rfl
  have c4 := hcell j _ 4 _ hrow rfl
  have c5 := hcell j _ 5 _ hrow rfl
  have r0 := hr j _ 0 _ hrow rfl
  have r1 := hr j _ 1 _ hrow rfl
  have r2 := hr j _ 2 _ hrow rfl
  have r3 := hr j _ 3 _ hrow rfl
  have r4 := hr j _ 4 _ hrow rfl
  have r5 := hr j _ 5 _ hrow rfl
  obtain ⟨okA, okc, e4, m4, l4⟩ := rdp_mat r4
  obtain ⟨rwA, rwc, e5, m5, l5⟩ := rdp_mat r5
  rw [r0.val.1] at c0
  rw [r1.val.1] at c1
  rw [r2.val.1] at c2
  rw [r3.val.1] at c3
  rw [e4] at c4
  rw [e5] at c5
  exact ⟨b, o, okA, okc, rwA, rwc, h1, h2, c0, c1, c2, c3, c4, c5, m4, m5, l4, l5⟩
theorem prob_of_rd {ρ : Key → Hd} {ok : Key → Prop} {p : Prob} (h : AVRel (CRel S ρ ok w) (.one true (probC p)) v) : ProbAt w v p := by
 obtain ⟨vs, h1, h2⟩ := h
 simp only [if_true] at h2
 unfold probC at h1
 cases h1 with
 | cons r0 h1 => cases h1 with
  | cons r1 h1 => cases h1 with
   | cons r2 h1 => cases h1 with
    | cons r3 h1 =>
     cases h1
     obtain ⟨A0, c0, rfl, k0, l0⟩ := rdp_cells (f := Value.int .i64) (xs := p.vs) r0
     obtain ⟨A1, c1, rfl, k1, l1⟩ := rdp_cells (f := Value.int .i64) (xs := p.now) r1
     obtain ⟨A2, c2, rfl, k2, l2⟩ := rdp_cells (f := Value.int .i64) (xs := p.tgt) r2
     obtain ⟨A3, c3, rfl, k3, l3⟩ := rdp_tabs r3
     exact ⟨A0, c0, A1, c1, A2, c2, A3, c3, h2, k0, k1, k2, k3, l0, l1, l2, l3⟩
end
theorem vp_fn (p : Prob) : FnSound Tryz.prog 96 [.val true (probC p)] [] { vals := [(false, [.d (.v (.int .i64 (vpErr p)))])] } := by
 refine fn_data rfl (fun V X Z ρ w vals hl hR => ?_)
 obtain ⟨_, hv⟩ := args_val hR (i := 0) (av := .one true (probC p)) rfl
 rw [vals_one hl]
 refine (validProblem_any _ p w (prob_of_rd hv)).mono ?_
 rintro e w' ⟨rfl, hb⟩
 exact ⟨_, rfl, hb, fun S _ ρ' ok' => ⟨[.int .i64 (vpErr p)], .cons (Rd.v rfl) .nil, rfl⟩⟩
end Go.Proofs.YtbdjcgjdmhgnmaaGreat

