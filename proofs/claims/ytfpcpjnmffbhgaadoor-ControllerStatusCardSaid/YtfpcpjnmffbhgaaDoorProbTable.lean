/-
  The contract of fleet.table: it returns the error of a table, and changes nothing that was there.
-/
import Derived.Test.YtfpcpjnmffbhgaaDoorProbWalk
import Derived.Test.YtfpcpjnmffbhgaaDoorGrow
namespace Go.Proofs.YtfpcpjnmffbhgaaDoor
open Go.RowKit
set_option linter.unusedSimpArgs false
set_option linter.unusedVariables false
set_option maxHeartbeats 4000000
set_option maxRecDepth 100000
theorem matrix_eq (A : Option Addr) (c : Nat) (l : List (List Bool)) (n m : Int) (B : Bool) (w : World) (hl : Mat w A l) (hn : l.length ≤ 4611686018427387904) (hB : sq l n m = B) :
    Calls Tryd.prog 67 #[.slice A l.length c, .int .i64 n, .int .i64 m] w fun e w' => e = .returned (.bool B) ∧ Below w.heap.size w w' := by
  rw [← hB]; exact matrix_any A c l n m w hl hn
theorem sq_rows {l : List (List Bool)} {n : Int} (h : sq l n n = true) (k : Nat) (hk : k < l.length) : k < (l[k]).length := by
  simp only [sq, sqRows, Bool.and_eq_true, beq_iff_eq, List.all_eq_true] at h
  have := h.2 l[k] (List.getElem_mem hk)
  omega
theorem table_any (vA nA gA tA okA rwA : Option Addr) (vc nn nc gn gc tn tc okc rwc : Nat) (vs : List Int) (t : Tab) (w : World) (hv : Cells w vA (ints vs)) (h1 : Mat w okA t.ok) (h2 : Mat w rwA t.rw)
    (hn1 : t.ok.length ≤ 4611686018427387904) (hn2 : t.rw.length ≤ 4611686018427387904) (hnv : vs.length ≤ 4611686018427387904) :
    Calls Tryd.prog 44 #[.agg #[.slice vA vs.length vc, .slice nA nn nc, .slice gA gn gc, .slice tA tn tc], .agg #[.int .i64 t.kind, .int .i64 t.frm, .int .i64 t.tto, .bool t.aware, .slice okA t.ok.length okc, .slice rwA t.rw.length rwc]] w
      fun e w' => e = .returned (.int .i64 (tabErr vs t)) ∧ Below w.heap.size w w' := by
  have HV := hid hv
  have HM1 := hid h1
  have HM2 := hid h2
  clear hv h1 h2
  by_cases hk : kindOK t.kind t.aware = true
  · by_cases hf : withinB t.frm vs.length = true
    · by_cases ht : withinB t.tto vs.length = true
      · obtain ⟨f0, f1⟩ : 0 ≤ t.frm ∧ t.frm < vs.length := by simpa [withinB] using hf
        obtain ⟨t0, t1⟩ : 0 ≤ t.tto ∧ t.tto < vs.length := by simpa [withinB] using ht
        obtain ⟨vb, voff, rfl, hvb, hfc⟩ := HV.out.at_int (k := t.frm.toNat) (by omega)
        obtain ⟨_, _, hvv, _, htc⟩ := HV.out.at_int (k := t.tto.toNat) (by omega)
        injection hvv with hvv
        injection hvv with e1 e2
        subst e1 e2
        have htab : tabErr vs t = if sq t.ok vs[t.frm.toNat] vs[t.tto.toNat] = false ∨ (t.kind = 4 ∧ sq t.rw vs[t.frm.toNat] vs[t.frm.toNat] = false) ∨ (¬ t.kind = 4 ∧ 0 < t.rw.length) then 6 else if diagFrom t.rw 0 = false then 1 else 0 := by
          unfold tabErr
          rw [if_neg (by simp [hk]), if_neg (by simp [hf, ht]), List.getD_eq_getElem?_getD, List.getD_eq_getElem?_getD, List.getElem?_eq_getElem (by omega), List.getElem?_eq_getElem (by omega)]
          rfl
        generalize vs[t.frm.toNat] = vfr at hfc htab
        generalize vs[t.tto.toNat] = vto at htc htab
        have Htab := hid htab
        clear htab
        by_cases hs : sq t.ok vfr vto = true
        · by_cases h4 : t.kind = 4
          · have h4' : (t.kind == 4) = true := by simpa using h4
            have H4 := hid h4
            clear h4
            by_cases hr : sq t.rw vfr vfr = true
            · have HR := hid (sq_rows hr)
              go_enter Tryd.func44, Tryd.ntmps44
              go_wp2_with fail
              refine (fkind_any _ _ _).mono ?_
              rintro e w1 ⟨rfl, hb1⟩
              obtain ⟨hc1, hf1⟩ := bcell hb1
              have hz1 := hb1.size
              try simp at hz1
              have z1_0 : w.heap.size < w1.heap.size := by omega
              have z1_1 : w.heap.size + 1 < w1.heap.size := by omega
              go_wp2_with fail
              refine (within_any _ _ _).mono ?_
              rintro e w2 ⟨rfl, hb2⟩
              obtain ⟨hc2, hf2⟩ := bcell hb2
              have hz2 := hb2.size
              try simp at hz2
              have z2_0 : w.heap.size < w2.heap.size := by omega
              have z2_1 : w.heap.size + 1 < w2.heap.size := by omega
              go_wp2_with fail
              refine (within_any _ _ _).mono ?_
              rintro e w3 ⟨rfl, hb3⟩
              obtain ⟨hc3, hf3⟩ := bcell hb3
              have hz3 := hb3.size
              try simp at hz3
              have z3_0 : w.heap.size < w3.heap.size := by omega
              have z3_1 : w.heap.size + 1 < w3.heap.size := by omega
              have B0 : Blk w3 w.heap.size 34 #[.slice (some ⟨vb, voff, none⟩) vs.length vc, .slice nA nn nc, .slice gA gn gc, .slice tA tn tc] := by (repeat (first | assumption | (with_reducible refine Blk.new' ?_; simp; done) | with_reducible refine Blk.alloc ?_ _ | with_reducible refine Blk.drew ?_ | with_reducible refine Blk.ext ?_ (by assumption)))
              have B1 : Blk w3 (w.heap.size + 1) 83 #[.int .i64 t.kind, .int .i64 t.frm, .int .i64 t.tto, .bool t.aware, .slice okA t.ok.length okc, .slice rwA t.rw.length rwc] := by (repeat (first | assumption | (with_reducible refine Blk.new' ?_; simp; done) | with_reducible refine Blk.alloc ?_ _ | with_reducible refine Blk.drew ?_ | with_reducible refine Blk.ext ?_ (by assumption)))
              have hx : Below w.heap.size w w3 := by (repeat (first | with_reducible exact ext_refl _ | with_reducible refine ext_alloc ?_ _ | with_reducible refine ext_set ?_ (by omega) _ | with_reducible refine ext_drew ?_ | with_reducible refine ext_step ?_ (by assumption)))
              have hfc3 : w3.cell? ⟨vb, voff + t.frm.toNat, none⟩ = some (.int .i64 vfr) := (hx.cell (p := ⟨vb, voff + t.frm.toNat, none⟩) hvb).trans hfc
              have htc3 : w3.cell? ⟨vb, voff + t.tto.toNat, none⟩ = some (.int .i64 vto) := (hx.cell (p := ⟨vb, voff + t.tto.toNat, none⟩) hvb).trans htc
              have k0 := gr_blk B0
              have k1 := gr_blk B1
              have k4 := gr_cell (Nat.lt_trans hvb z3_0) htc3
              go_wp2_with fail
              refine wp_region_gr (by kernel_rfl) (by kernel_rfl) ?_
              repeat (go_big_quiet_step (first | (go_at_call 67; with_reducible exact gr_of (matrix_eq okA _ _ _ _ true _ (HM1.out.ext (ext_step hx (Gr.ok _))) hn1 hs)) | (go_at_call 67; with_reducible exact gr_of (matrix_eq rwA _ _ _ _ true _ (HM2.out.ext (ext_step hx (Gr.ok _))) hn2 hr))))
              refine wpQuiet_nil ?_
              intro w4 hw'
              have hb4 := gr_out hw'
              clear hw'
              have hx4 : Below w.heap.size w w4 := ext_step hx hb4
              have B4 := B1.ext hb4
              have c4 := B4.cell
              clear k0 k1 k4 hc1 hf1 hc2 hf2 hc3 hf3

              go_wp2_with fail
              go_loopw [74] (fun iv wr => ∃ k : Nat, k ≤ t.rw.length ∧ iv = .int .i64 k ∧ Hid (diagFrom (t.rw.drop k) k = diagFrom t.rw 0) ∧ Below w.heap.size w wr ∧ Blk wr (w.heap.size + 1) 83 #[.int .i64 t.kind, .int .i64 t.frm, .int .i64 t.tto, .bool t.aware, .slice okA t.ok.length okc, .slice rwA t.rw.length rwc]) (fun iv _ => t.rw.length - (intOf iv).toNat)
              case atStart => exact ⟨0, Nat.zero_le _, rfl, rfl, hx4, B4⟩
              case round =>
                obtain ⟨k, hk, rfl, hS, hB, hT⟩ := hrel
                have cT := hT.cell
                by_cases hlt : k < t.rw.length
                · obtain ⟨b, off, rA, rc, rfl, hbl, q0, qc, _⟩ := HM2.out k hlt
                  have hrl : k < (t.rw[k]).length := HR.out k hlt
                  obtain ⟨rb, ro, rfl, hrb, q1⟩ := qc.at_bool hrl
                  have p0 := (hB.cell (p := ⟨b, off + k, none⟩) hbl).trans q0
                  have p1 := (hB.cell (p := ⟨rb, ro + k, none⟩) hrb).trans q1
                  have HD : Hid (diagFrom (t.rw.drop k) k = ((t.rw[k]).getD k false && diagFrom (t.rw.drop (k + 1)) (k + 1))) := by
                    show _ = _; rw [drop_cons hlt]; rfl
                  have HG : Hid ((t.rw[k]).getD k false = (t.rw[k])[k]) := by
                    show _ = _; rw [List.getD_eq_getElem?_getD, List.getElem?_eq_getElem hrl]; rfl
                  clear q0 q1 qc
                  generalize hbv : (t.rw[k])[k] = bv at p1 HG
                  have Hbv := hid hbv
                  clear hbv
                  cases bv
                  · go_wp2_with fail
                    go_ret
                    exact ⟨ret_int (by rw [Htab.out, if_neg (by simp [hs, hr, H4.out]), if_pos (by rw [← hS.out, HD.out, HG.out]; rfl)]), hB⟩
                  · go_wp2_with fail
                    go_roundw
                    case rel => exact ⟨k + 1, by omega, by go_num, by show _ = _; rw [← hS.out, HD.out, HG.out]; rfl, hB, hT⟩
                    case measure => simp [intOf]; omega
                · go_wp2_with fail
                  go_ret
                  refine ⟨ret_int ?_, hB⟩
                  rw [Htab.out, if_neg (by simp [hs, hr, H4.out]), if_neg]
                  rw [← hS.out, List.drop_eq_nil_of_le (by omega)]
                  simp [diagFrom]
            · have hr : sq t.rw vfr vfr = false := by simpa using hr
              go_enter Tryd.func44, Tryd.ntmps44
              go_wp2_with fail
              refine (fkind_any _ _ _).mono ?_
              rintro e w1 ⟨rfl, hb1⟩
              obtain ⟨hc1, hf1⟩ := bcell hb1
              have hz1 := hb1.size
              try simp at hz1
              have z1_0 : w.heap.size < w1.heap.size := by omega
              have z1_1 : w.heap.size + 1 < w1.heap.size := by omega
              go_wp2_with fail
              refine (within_any _ _ _).mono ?_
              rintro e w2 ⟨rfl, hb2⟩
              obtain ⟨hc2, hf2⟩ := bcell hb2
              have hz2 := hb2.size
              try simp at hz2
              have z2_0 : w.heap.size < w2.heap.size := by omega
              have z2_1 : w.heap.size + 1 < w2.heap.size := by omega
              go_wp2_with fail
              refine (within_any _ _ _).mono ?_
              rintro e w3 ⟨rfl, hb3⟩
              obtain ⟨hc3, hf3⟩ := bcell hb3
              have hz3 := hb3.size
              try simp at hz3
              have z3_0 : w.heap.size < w3.heap.size := by omega
              have z3_1 : w.heap.size + 1 < w3.heap.size := by omega
              have B0 : Blk w3 w.heap.size 34 #[.slice (some ⟨vb, voff, none⟩) vs.length vc, .slice nA nn nc, .slice gA gn gc, .slice tA tn tc] := by (repeat (first | assumption | (with_reducible refine Blk.new' ?_; simp; done) | with_reducible refine Blk.alloc ?_ _ | with_reducible refine Blk.drew ?_ | with_reducible refine Blk.ext ?_ (by assumption)))
              have B1 : Blk w3 (w.heap.size + 1) 83 #[.int .i64 t.kind, .int .i64 t.frm, .int .i64 t.tto, .bool t.aware, .slice okA t.ok.length okc, .slice rwA t.rw.length rwc] := by (repeat (first | assumption | (with_reducible refine Blk.new' ?_; simp; done) | with_reducible refine Blk.alloc ?_ _ | with_reducible refine Blk.drew ?_ | with_reducible refine Blk.ext ?_ (by assumption)))
              have hx : Below w.heap.size w w3 := by (repeat (first | with_reducible exact ext_refl _ | with_reducible refine ext_alloc ?_ _ | with_reducible refine ext_set ?_ (by omega) _ | with_reducible refine ext_drew ?_ | with_reducible refine ext_step ?_ (by assumption)))
              have hfc3 : w3.cell? ⟨vb, voff + t.frm.toNat, none⟩ = some (.int .i64 vfr) := (hx.cell (p := ⟨vb, voff + t.frm.toNat, none⟩) hvb).trans hfc
              have htc3 : w3.cell? ⟨vb, voff + t.tto.toNat, none⟩ = some (.int .i64 vto) := (hx.cell (p := ⟨vb, voff + t.tto.toNat, none⟩) hvb).trans htc
              have k0 := gr_blk B0
              have k1 := gr_blk B1
              have k4 := gr_cell (Nat.lt_trans hvb z3_0) htc3
              go_wp2_with fail
              refine wp_region_gr (by kernel_rfl) (by kernel_rfl) ?_
              repeat (go_big_quiet_step (first | (go_at_call 67; with_reducible exact gr_of (matrix_eq okA _ _ _ _ true _ (HM1.out.ext (ext_step hx (Gr.ok _))) hn1 hs)) | (go_at_call 67; with_reducible exact gr_of (matrix_eq rwA _ _ _ _ false _ (HM2.out.ext (ext_step hx (Gr.ok _))) hn2 hr))))
              refine wpQuiet_nil ?_
              intro w4 hw'
              have hb4 := gr_out hw'
              clear hw'
              have hx4 : Below w.heap.size w w4 := ext_step hx hb4
              have B4 := B1.ext hb4
              have c4 := B4.cell
              clear k0 k1 k4 hc1 hf1 hc2 hf2 hc3 hf3

              go_wp2_with fail
              go_ret
              exact ⟨ret_int (by rw [Htab.out, if_pos (by exact .inr (.inl ⟨H4.out, hr⟩))]), hx4⟩
          · have h4' : (t.kind == 4) = false := by simpa using h4
            have H4 := hid h4
            clear h4
            by_cases hr : 0 < t.rw.length
            · have hr' : decide (0 < (t.rw.length : Int)) = true := by simpa using hr
              go_enter Tryd.func44, Tryd.ntmps44
              go_wp2_with fail
              refine (fkind_any _ _ _).mono ?_
              rintro e w1 ⟨rfl, hb1⟩
              obtain ⟨hc1, hf1⟩ := bcell hb1
              have hz1 := hb1.size
              try simp at hz1
              have z1_0 : w.heap.size < w1.heap.size := by omega
              have z1_1 : w.heap.size + 1 < w1.heap.size := by omega
              go_wp2_with fail
              refine (within_any _ _ _).mono ?_
              rintro e w2 ⟨rfl, hb2⟩
              obtain ⟨hc2, hf2⟩ := bcell hb2
              have hz2 := hb2.size
              try simp at hz2
              have z2_0 : w.heap.size < w2.heap.size := by omega
              have z2_1 : w.heap.size + 1 < w2.heap.size := by omega
              go_wp2_with fail
              refine (within_any _ _ _).mono ?_
              rintro e w3 ⟨rfl, hb3⟩
              obtain ⟨hc3, hf3⟩ := bcell hb3
              have hz3 := hb3.size
              try simp at hz3
              have z3_0 : w.heap.size < w3.heap.size := by omega
              have z3_1 : w.heap.size + 1 < w3.heap.size := by omega
              have B0 : Blk w3 w.heap.size 34 #[.slice (some ⟨vb, voff, none⟩) vs.length vc, .slice nA nn nc, .slice gA gn gc, .slice tA tn tc] := by (repeat (first | assumption | (with_reducible refine Blk.new' ?_; simp; done) | with_reducible refine Blk.alloc ?_ _ | with_reducible refine Blk.drew ?_ | with_reducible refine Blk.ext ?_ (by assumption)))
              have B1 : Blk w3 (w.heap.size + 1) 83 #[.int .i64 t.kind, .int .i64 t.frm, .int .i64 t.tto, .bool t.aware, .slice okA t.ok.length okc, .slice rwA t.rw.length rwc] := by (repeat (first | assumption | (with_reducible refine Blk.new' ?_; simp; done) | with_reducible refine Blk.alloc ?_ _ | with_reducible refine Blk.drew ?_ | with_reducible refine Blk.ext ?_ (by assumption)))
              have hx : Below w.heap.size w w3 := by (repeat (first | with_reducible exact ext_refl _ | with_reducible refine ext_alloc ?_ _ | with_reducible refine ext_set ?_ (by omega) _ | with_reducible refine ext_drew ?_ | with_reducible refine ext_step ?_ (by assumption)))
              have hfc3 : w3.cell? ⟨vb, voff + t.frm.toNat, none⟩ = some (.int .i64 vfr) := (hx.cell (p := ⟨vb, voff + t.frm.toNat, none⟩) hvb).trans hfc
              have htc3 : w3.cell? ⟨vb, voff + t.tto.toNat, none⟩ = some (.int .i64 vto) := (hx.cell (p := ⟨vb, voff + t.tto.toNat, none⟩) hvb).trans htc
              have k0 := gr_blk B0
              have k1 := gr_blk B1
              have k4 := gr_cell (Nat.lt_trans hvb z3_0) htc3
              go_wp2_with fail
              refine wp_region_gr (by kernel_rfl) (by kernel_rfl) ?_
              repeat (go_big_quiet_step (first | (go_at_call 67; with_reducible exact gr_of (matrix_eq okA _ _ _ _ true _ (HM1.out.ext (ext_step hx (Gr.ok _))) hn1 hs))))
              refine wpQuiet_nil ?_
              intro w4 hw'
              have hb4 := gr_out hw'
              clear hw'
              have hx4 : Below w.heap.size w w4 := ext_step hx hb4
              have B4 := B1.ext hb4
              have c4 := B4.cell
              clear k0 k1 k4 hc1 hf1 hc2 hf2 hc3 hf3

              go_wp2_with fail
              go_ret
              exact ⟨ret_int (by rw [Htab.out, if_pos (by exact .inr (.inr ⟨H4.out, hr⟩))]), hx4⟩
            · have hr' : decide (0 < (t.rw.length : Int)) = false := by simpa using hr
              have HR : Hid (∀ k (hk : k < t.rw.length), k < (t.rw[k]).length) := fun k hk => absurd hk (by omega)
              go_enter Tryd.func44, Tryd.ntmps44
              go_wp2_with fail
              refine (fkind_any _ _ _).mono ?_
              rintro e w1 ⟨rfl, hb1⟩
              obtain ⟨hc1, hf1⟩ := bcell hb1
              have hz1 := hb1.size
              try simp at hz1
              have z1_0 : w.heap.size < w1.heap.size := by omega
              have z1_1 : w.heap.size + 1 < w1.heap.size := by omega
              go_wp2_with fail
              refine (within_any _ _ _).mono ?_
              rintro e w2 ⟨rfl, hb2⟩
              obtain ⟨hc2, hf2⟩ := bcell hb2
              have hz2 := hb2.size
              try simp at hz2
              have z2_0 : w.heap.size < w2.heap.size := by omega
              have z2_1 : w.heap.size + 1 < w2.heap.size := by omega
              go_wp2_with fail
              refine (within_any _ _ _).mono ?_
              rintro e w3 ⟨rfl, hb3⟩
              obtain ⟨hc3, hf3⟩ := bcell hb3
              have hz3 := hb3.size
              try simp at hz3
              have z3_0 : w.heap.size < w3.heap.size := by omega
              have z3_1 : w.heap.size + 1 < w3.heap.size := by omega
              have B0 : Blk w3 w.heap.size 34 #[.slice (some ⟨vb, voff, none⟩) vs.length vc, .slice nA nn nc, .slice gA gn gc, .slice tA tn tc] := by (repeat (first | assumption | (with_reducible refine Blk.new' ?_; simp; done) | with_reducible refine Blk.alloc ?_ _ | with_reducible refine Blk.drew ?_ | with_reducible refine Blk.ext ?_ (by assumption)))
              have B1 : Blk w3 (w.heap.size + 1) 83 #[.int .i64 t.kind, .int .i64 t.frm, .int .i64 t.tto, .bool t.aware, .slice okA t.ok.length okc, .slice rwA t.rw.length rwc] := by (repeat (first | assumption | (with_reducible refine Blk.new' ?_; simp; done) | with_reducible refine Blk.alloc ?_ _ | with_reducible refine Blk.drew ?_ | with_reducible refine Blk.ext ?_ (by assumption)))
              have hx : Below w.heap.size w w3 := by (repeat (first | with_reducible exact ext_refl _ | with_reducible refine ext_alloc ?_ _ | with_reducible refine ext_set ?_ (by omega) _ | with_reducible refine ext_drew ?_ | with_reducible refine ext_step ?_ (by assumption)))
              have hfc3 : w3.cell? ⟨vb, voff + t.frm.toNat, none⟩ = some (.int .i64 vfr) := (hx.cell (p := ⟨vb, voff + t.frm.toNat, none⟩) hvb).trans hfc
              have htc3 : w3.cell? ⟨vb, voff + t.tto.toNat, none⟩ = some (.int .i64 vto) := (hx.cell (p := ⟨vb, voff + t.tto.toNat, none⟩) hvb).trans htc
              have k0 := gr_blk B0
              have k1 := gr_blk B1
              have k4 := gr_cell (Nat.lt_trans hvb z3_0) htc3
              go_wp2_with fail
              refine wp_region_gr (by kernel_rfl) (by kernel_rfl) ?_
              repeat (go_big_quiet_step (first | (go_at_call 67; with_reducible exact gr_of (matrix_eq okA _ _ _ _ true _ (HM1.out.ext (ext_step hx (Gr.ok _))) hn1 hs))))
              refine wpQuiet_nil ?_
              intro w4 hw'
              have hb4 := gr_out hw'
              clear hw'
              have hx4 : Below w.heap.size w w4 := ext_step hx hb4
              have B4 := B1.ext hb4
              have c4 := B4.cell
              clear k0 k1 k4 hc1 hf1 hc2 hf2 hc3 hf3
              have HF : Hid (¬ (sq t.ok vfr vto = false ∨ (t.kind = 4 ∧ sq t.rw vfr vfr = false) ∨ (¬ t.kind = 4 ∧ 0 < t.rw.length))) := by
                show ¬ _
                rintro (h | ⟨h, _⟩ | ⟨_, h⟩)
                · rw [hs] at h; cases h
                · exact H4.out h
                · omega

              go_wp2_with fail
              go_loopw [74] (fun iv wr => ∃ k : Nat, k ≤ t.rw.length ∧ iv = .int .i64 k ∧ Hid (diagFrom (t.rw.drop k) k = diagFrom t.rw 0) ∧ Below w.heap.size w wr ∧ Blk wr (w.heap.size + 1) 83 #[.int .i64 t.kind, .int .i64 t.frm, .int .i64 t.tto, .bool t.aware, .slice okA t.ok.length okc, .slice rwA t.rw.length rwc]) (fun iv _ => t.rw.length - (intOf iv).toNat)
              case atStart => exact ⟨0, Nat.zero_le _, rfl, rfl, hx4, B4⟩
              case round =>
                obtain ⟨k, hk, rfl, hS, hB, hT⟩ := hrel
                have cT := hT.cell
                by_cases hlt : k < t.rw.length
                · exact absurd hlt (by omega)
                · go_wp2_with fail
                  go_ret
                  refine ⟨ret_int ?_, hB⟩
                  rw [Htab.out, if_neg (by exact HF.out), if_neg]
                  rw [← hS.out, List.drop_eq_nil_of_le (by omega)]
                  simp [diagFrom]
        · have hs : sq t.ok vfr vto = false := by simpa using hs
          go_enter Tryd.func44, Tryd.ntmps44
          go_wp2_with fail
          refine (fkind_any _ _ _).mono ?_
          rintro e w1 ⟨rfl, hb1⟩
          obtain ⟨hc1, hf1⟩ := bcell hb1
          have hz1 := hb1.size
          try simp at hz1
          have z1_0 : w.heap.size < w1.heap.size := by omega
          have z1_1 : w.heap.size + 1 < w1.heap.size := by omega
          go_wp2_with fail
          refine (within_any _ _ _).mono ?_
          rintro e w2 ⟨rfl, hb2⟩
          obtain ⟨hc2, hf2⟩ := bcell hb2
          have hz2 := hb2.size
          try simp at hz2
          have z2_0 : w.heap.size < w2.heap.size := by omega
          have z2_1 : w.heap.size + 1 < w2.heap.size := by omega
          go_wp2_with fail
          refine (within_any _ _ _).mono ?_
          rintro e w3 ⟨rfl, hb3⟩
          obtain ⟨hc3, hf3⟩ := bcell hb3
          have hz3 := hb3.size
          try simp at hz3
          have z3_0 : w.heap.size < w3.heap.size := by omega
          have z3_1 : w.heap.size + 1 < w3.heap.size := by omega
          have B0 : Blk w3 w.heap.size 34 #[.slice (some ⟨vb, voff, none⟩) vs.length vc, .slice nA nn nc, .slice gA gn gc, .slice tA tn tc] := by (repeat (first | assumption | (with_reducible refine Blk.new' ?_; simp; done) | with_reducible refine Blk.alloc ?_ _ | with_reducible refine Blk.drew ?_ | with_reducible refine Blk.ext ?_ (by assumption)))
          have B1 : Blk w3 (w.heap.size + 1) 83 #[.int .i64 t.kind, .int .i64 t.frm, .int .i64 t.tto, .bool t.aware, .slice okA t.ok.length okc, .slice rwA t.rw.length rwc] := by (repeat (first | assumption | (with_reducible refine Blk.new' ?_; simp; done) | with_reducible refine Blk.alloc ?_ _ | with_reducible refine Blk.drew ?_ | with_reducible refine Blk.ext ?_ (by assumption)))
          have hx : Below w.heap.size w w3 := by (repeat (first | with_reducible exact ext_refl _ | with_reducible refine ext_alloc ?_ _ | with_reducible refine ext_set ?_ (by omega) _ | with_reducible refine ext_drew ?_ | with_reducible refine ext_step ?_ (by assumption)))
          have hfc3 : w3.cell? ⟨vb, voff + t.frm.toNat, none⟩ = some (.int .i64 vfr) := (hx.cell (p := ⟨vb, voff + t.frm.toNat, none⟩) hvb).trans hfc
          have htc3 : w3.cell? ⟨vb, voff + t.tto.toNat, none⟩ = some (.int .i64 vto) := (hx.cell (p := ⟨vb, voff + t.tto.toNat, none⟩) hvb).trans htc
          have k0 := gr_blk B0
          have k1 := gr_blk B1
          have k4 := gr_cell (Nat.lt_trans hvb z3_0) htc3
          go_wp2_with fail
          refine wp_region_gr (by kernel_rfl) (by kernel_rfl) ?_
          repeat (go_big_quiet_step (first | (go_at_call 67; with_reducible exact gr_of (matrix_eq okA _ _ _ _ false _ (HM1.out.ext (ext_step hx (Gr.ok _))) hn1 hs))))
          refine wpQuiet_nil ?_
          intro w4 hw'
          have hb4 := gr_out hw'
          clear hw'
          have hx4 : Below w.heap.size w w4 := ext_step hx hb4
          have B4 := B1.ext hb4
          have c4 := B4.cell
          clear k0 k1 k4 hc1 hf1 hc2 hf2 hc3 hf3

          go_wp2_with fail
          go_ret
          exact ⟨ret_int (by rw [Htab.out, if_pos (by exact .inl hs)]), hx4⟩
      · have ht' : withinB t.tto vs.length = false := by simpa using ht
        clear ht
        go_enter Tryd.func44, Tryd.ntmps44
        go_wp2_with fail
        refine (fkind_any _ _ _).mono ?_
        rintro e w1 ⟨rfl, hb1⟩
        obtain ⟨hc1, hf1⟩ := bcell hb1
        have hz1 := hb1.size
        try simp at hz1
        have z1_0 : w.heap.size < w1.heap.size := by omega
        have z1_1 : w.heap.size + 1 < w1.heap.size := by omega
        go_wp2_with fail
        refine (within_any _ _ _).mono ?_
        rintro e w2 ⟨rfl, hb2⟩
        obtain ⟨hc2, hf2⟩ := bcell hb2
        have hz2 := hb2.size
        try simp at hz2
        have z2_0 : w.heap.size < w2.heap.size := by omega
        have z2_1 : w.heap.size + 1 < w2.heap.size := by omega
        go_wp2_with fail
        refine (within_any _ _ _).mono ?_
        rintro e w3 ⟨rfl, hb3⟩
        obtain ⟨hc3, hf3⟩ := bcell hb3
        have hz3 := hb3.size
        try simp at hz3
        have z3_0 : w.heap.size < w3.heap.size := by omega
        have z3_1 : w.heap.size + 1 < w3.heap.size := by omega
        go_wp2_with fail
        go_ret
        refine ⟨ret_int (by unfold tabErr; rw [if_neg (by simp [hk]), if_pos (Or.inr ht')]), ?_⟩
        (repeat (first | with_reducible exact ext_refl _ | with_reducible refine ext_alloc ?_ _ | with_reducible refine ext_set ?_ (by omega) _ | with_reducible refine ext_drew ?_ | with_reducible refine ext_step ?_ (by assumption)))
    · have hf' : withinB t.frm vs.length = false := by simpa using hf
      clear hf
      go_enter Tryd.func44, Tryd.ntmps44
      go_wp2_with fail
      refine (fkind_any _ _ _).mono ?_
      rintro e w1 ⟨rfl, hb1⟩
      obtain ⟨hc1, hf1⟩ := bcell hb1
      have hz1 := hb1.size
      try simp at hz1
      have z1_0 : w.heap.size < w1.heap.size := by omega
      have z1_1 : w.heap.size + 1 < w1.heap.size := by omega
      go_wp2_with fail
      refine (within_any _ _ _).mono ?_
      rintro e w2 ⟨rfl, hb2⟩
      obtain ⟨hc2, hf2⟩ := bcell hb2
      have hz2 := hb2.size
      try simp at hz2
      have z2_0 : w.heap.size < w2.heap.size := by omega
      have z2_1 : w.heap.size + 1 < w2.heap.size := by omega
      go_wp2_with fail
      go_ret
      refine ⟨ret_int (by unfold tabErr; rw [if_neg (by simp [hk]), if_pos (Or.inl hf')]), ?_⟩
      (repeat (first | with_reducible exact ext_refl _ | with_reducible refine ext_alloc ?_ _ | with_reducible refine ext_set ?_ (by omega) _ | with_reducible refine ext_drew ?_ | with_reducible refine ext_step ?_ (by assumption)))
  · have hk' : kindOK t.kind t.aware = false := by simpa using hk
    clear hk
    go_enter Tryd.func44, Tryd.ntmps44
    go_wp2_with fail
    refine (fkind_any _ _ _).mono ?_
    rintro e w1 ⟨rfl, hb1⟩
    obtain ⟨hc1, hf1⟩ := bcell hb1
    have hz1 := hb1.size
    try simp at hz1
    have z1_0 : w.heap.size < w1.heap.size := by omega
    have z1_1 : w.heap.size + 1 < w1.heap.size := by omega
    go_wp2_with fail
    go_ret
    refine ⟨ret_int (by unfold tabErr; rw [if_pos hk']), ?_⟩
    (repeat (first | with_reducible exact ext_refl _ | with_reducible refine ext_alloc ?_ _ | with_reducible refine ext_set ?_ (by omega) _ | with_reducible refine ext_drew ?_ | with_reducible refine ext_step ?_ (by assumption)))
end Go.Proofs.YtfpcpjnmffbhgaaDoor
