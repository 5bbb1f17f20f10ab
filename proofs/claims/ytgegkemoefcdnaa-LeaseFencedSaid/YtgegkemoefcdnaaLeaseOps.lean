/-
  Contracts of one operation of a script (sheavelaw49.do and sheaveref49.Do): each returns what the plain function 'dop' computes.
-/
import Derived.Test.YtgegkemoefcdnaaLeaseLaw
import Derived.Deep.DeepCutAuto
import Derived.Deep.CutBlock
namespace Go.Proofs.Ytgegkemoefcdnaa
open Go.RowKit
set_option linter.unusedSimpArgs false
set_option linter.unusedVariables false
set_option maxHeartbeats 2000000
abbrev ov (k wh wt tl : Int) (old : Bool) : Value := .agg #[.int .u8 k, .int .u8 wh, .int .u8 wt, .int .u8 tl, .bool old]
def U8 (n : Int) : Prop := 0 ≤ n ∧ n ≤ 255
def tokOf (tk : Int) (old : Bool) : Int := if old = true then tk - 1 else tk
def dop (hd tk un now k wh wt tl : Int) (old : Bool) : Int × Int × Int × Int :=
  if k % 4 = 0 then acq hd tk un (wh % 3) (now + wt % 8) (tl % 6)
  else if k % 4 = 1 then ren hd tk un (wh % 3) (tokOf tk old) (now + wt % 8) (tl % 6)
  else if k % 4 = 2 then rel hd tk un (wh % 3) (tokOf tk old) (now + wt % 8) else (hd, tk, un, 0)
theorem dop_0 {hd tk un now k wh wt tl : Int} {old : Bool} (h : (k % 4 == 0) = true) : dop hd tk un now k wh wt tl old = acq hd tk un (wh % 3) (now + wt % 8) (tl % 6) := by
  unfold dop; rw [if_pos (by simpa using h)]
theorem dop_1 {hd tk un now k wh wt tl : Int} {old : Bool} (h0 : (k % 4 == 0) = false) (h : (k % 4 == 1) = true) : dop hd tk un now k wh wt tl old = ren hd tk un (wh % 3) (tokOf tk old) (now + wt % 8) (tl % 6) := by
  unfold dop; rw [if_neg (by simpa using h0), if_pos (by simpa using h)]
theorem dop_2 {hd tk un now k wh wt tl : Int} {old : Bool} (h0 : (k % 4 == 0) = false) (h1 : (k % 4 == 1) = false) (h : (k % 4 == 2) = true) : dop hd tk un now k wh wt tl old = rel hd tk un (wh % 3) (tokOf tk old) (now + wt % 8) := by
  unfold dop; rw [if_neg (by simpa using h0), if_neg (by simpa using h1), if_pos (by simpa using h)]
theorem dop_3 {hd tk un now k wh wt tl : Int} {old : Bool} (h0 : (k % 4 == 0) = false) (h1 : (k % 4 == 1) = false) (h : (k % 4 == 2) = false) : dop hd tk un now k wh wt tl old = (hd, tk, un, 0) := by
  unfold dop; rw [if_neg (by simpa using h0), if_neg (by simpa using h1), if_neg (by simpa using h)]
theorem tok_t {tk : Int} {old : Bool} (h : old = true) : tokOf tk old = tk - 1 := by simp [tokOf, h]
theorem tok_f {tk : Int} {old : Bool} (h : old = false) : tokOf tk old = tk := by simp [tokOf, h]
/-- What 'Do' returns: the lease, if there was no error. -/
def dnx (hd tk un now k wh wt tl : Int) (old : Bool) : Int × Int × Int :=
  if (dop hd tk un now k wh wt tl old).2.2.2 ≠ 0 then (hd, tk, un) else ((dop hd tk un now k wh wt tl old).1, (dop hd tk un now k wh wt tl old).2.1, (dop hd tk un now k wh wt tl old).2.2.1)
theorem dnx_0 {hd tk un now k wh wt tl a b c : Int} {old : Bool} (h : dop hd tk un now k wh wt tl old = (a, b, c, 0)) : dnx hd tk un now k wh wt tl old = (a, b, c) := by
  unfold dnx; rw [h]; simp
theorem dnx_1 {hd tk un now k wh wt tl a b c e : Int} {old : Bool} (h : dop hd tk un now k wh wt tl old = (a, b, c, e)) (he : ¬ e = 0) : dnx hd tk un now k wh wt tl old = (hd, tk, un) := by
  unfold dnx; rw [h]; simp [he]
theorem do_any (hd tk un now k wh wt tl : Int) (old : Bool) (w : World) (ht0 : 0 ≤ tk) (ht : tk ≤ 1000) (hn0 : 0 ≤ now) (hn : now ≤ 1000) (k0 : 0 ≤ k) (k1 : k ≤ 255) (wh0 : 0 ≤ wh) (wh1 : wh ≤ 255) (wt0 : 0 ≤ wt) (wt1 : wt ≤ 255) (tl0 : 0 ≤ tl) (tl1 : tl ≤ 255) :
    Calls Try.prog 24 #[lv hd tk un, .int .i64 now, ov k wh wt tl old] w fun e w' =>
      e = .returned (.tuple #[lv (dop hd tk un now k wh wt tl old).1 (dop hd tk un now k wh wt tl old).2.1 (dop hd tk un now k wh wt tl old).2.2.1, .int .i64 (dop hd tk un now k wh wt tl old).2.2.2]) ∧ Below w.heap.size w w' := by
  have hw : wt % 8 < 8 := by omega
  have hw' : 0 ≤ wt % 8 := by omega
  have hq : tl % 6 < 6 := by omega
  have hq' : 0 ≤ tl % 6 := by omega
  go_enter Try.func24, Try.ntmps24
  go_wp2_with (first | (go_at_call 11; refine (acquire_any _ _ _ _ _ _ _ ⟨by omega, by omega⟩ (by omega)).mono ?_; rintro e w1 ⟨rfl, hb⟩; obtain ⟨hc, hf⟩ := bcell hb; have hz := hb.size; (try simp at hz); have z0 : w.heap.size < w1.heap.size := (by omega); have z1 : w.heap.size + 1 < w1.heap.size := (by omega); have z2 : w.heap.size + 2 < w1.heap.size := (by omega); have zz2 : w.heap.size + 1 + 1 < w1.heap.size := (by omega)) | (go_at_call 15; refine (renew_any _ _ _ _ _ _ _ _ (by omega)).mono ?_; rintro e w1 ⟨rfl, hb⟩; obtain ⟨hc, hf⟩ := bcell hb; have hz := hb.size; (try simp at hz); have z0 : w.heap.size < w1.heap.size := (by omega); have z1 : w.heap.size + 1 < w1.heap.size := (by omega); have z2 : w.heap.size + 2 < w1.heap.size := (by omega); have zz2 : w.heap.size + 1 + 1 < w1.heap.size := (by omega)) | (go_at_call 21; refine (release_any _ _ _ _ _ _ _).mono ?_; rintro e w1 ⟨rfl, hb⟩; obtain ⟨hc, hf⟩ := bcell hb; have hz := hb.size; (try simp at hz); have z0 : w.heap.size < w1.heap.size := (by omega); have z1 : w.heap.size + 1 < w1.heap.size := (by omega); have z2 : w.heap.size + 2 < w1.heap.size := (by omega); have zz2 : w.heap.size + 1 + 1 < w1.heap.size := (by omega)))
  all_goals refine bodyPost_ret (by simp [results, Try.results24, go_sem, *]; rfl) rfl ⟨?_, ?_⟩
  all_goals first | ((repeat (first | with_reducible exact ext_refl _ | with_reducible refine ext_alloc ?_ _ | with_reducible refine ext_set ?_ (by omega) _ | with_reducible refine ext_drew ?_ | with_reducible refine ext_step ?_ (by assumption))); done) | skip
  · rw [dop_0 ‹_›]
  · rw [dop_1 ‹_› ‹_›, tok_t ‹_›]
  · rw [dop_2 ‹_› ‹_› ‹_›, tok_t ‹_›]
  · rw [dop_3 ‹_› ‹_› ‹_›]
  · rw [dop_0 ‹_›]
  · rw [dop_1 ‹_› ‹_›, tok_f ‹_›]
  · rw [dop_2 ‹_› ‹_› ‹_›, tok_f ‹_›]
  · rw [dop_3 ‹_› ‹_› ‹_›]
theorem rdo_any (hd tk un now k wh wt tl : Int) (old : Bool) (w : World) (ht0 : 0 ≤ tk) (ht : tk ≤ 1000) (hn0 : 0 ≤ now) (hn : now ≤ 1000) (k0 : 0 ≤ k) (k1 : k ≤ 255) (wh0 : 0 ≤ wh) (wh1 : wh ≤ 255) (wt0 : 0 ≤ wt) (wt1 : wt ≤ 255) (tl0 : 0 ≤ tl) (tl1 : tl ≤ 255) :
    Calls Try.prog 25 #[lv hd tk un, .int .i64 now, ov k wh wt tl old] w fun e w' =>
      e = .returned (.tuple #[lv (dnx hd tk un now k wh wt tl old).1 (dnx hd tk un now k wh wt tl old).2.1 (dnx hd tk un now k wh wt tl old).2.2, .int .i64 (now + wt % 8), .int .i64 (dop hd tk un now k wh wt tl old).2.2.2]) ∧ Below w.heap.size w w' := by
  have hw : wt % 8 < 8 := by omega
  have hw' : 0 ≤ wt % 8 := by omega
  have hq : tl % 6 < 6 := by omega
  have hq' : 0 ≤ tl % 6 := by omega
  cases old
  all_goals go_enter Try.func25, Try.ntmps25
  · have N0 := (((Blk.new w 23 #[.int .i64 hd, .int .i64 tk, .int .i64 un]).alloc (.cells #[.int .u8 k, .int .u8 wh, .int .u8 wt, .int .u8 tl, .bool false] 43)).alloc (.cells #[.int .i64 0, .int .i64 0, .int .i64 0] 23)).alloc (.cells #[.int .i64 0, .int .i64 0, .int .i64 0] 23)
    have N2 := (Blk.new ((w.alloc (.cells #[.int .i64 hd, .int .i64 tk, .int .i64 un] 23)).alloc (.cells #[.int .u8 k, .int .u8 wh, .int .u8 wt, .int .u8 tl, .bool false] 43)) 23 #[.int .i64 0, .int .i64 0, .int .i64 0]).alloc (.cells #[.int .i64 0, .int .i64 0, .int .i64 0] 23)
    have N3 := Blk.new (((w.alloc (.cells #[.int .i64 hd, .int .i64 tk, .int .i64 un] 23)).alloc (.cells #[.int .u8 k, .int .u8 wh, .int .u8 wt, .int .u8 tl, .bool false] 43)).alloc (.cells #[.int .i64 0, .int .i64 0, .int .i64 0] 23)) 23 #[.int .i64 0, .int .i64 0, .int .i64 0]
    simp only [World.size_alloc] at N2 N3
    go_upto_block 0 with (fail)
    go_cut [11] (fun s11 wx => ∃ a b c er, dop hd tk un now k wh wt tl false = (a, b, c, er) ∧ s11 = .int .i64 er ∧ Blk wx w.heap.size 23 #[.int .i64 hd, .int .i64 tk, .int .i64 un] ∧ Blk wx (w.heap.size + 1 + 1) 23 #[.int .i64 0, .int .i64 0, .int .i64 0] ∧ Blk wx (w.heap.size + 1 + 1 + 1) 23 #[.int .i64 a, .int .i64 b, .int .i64 c] ∧ Below w.heap.size w wx)
    case first =>
      go_wp2_with fail
      · refine (racquire_any _ _ _ _ _ _ _ ⟨by omega, by omega⟩ (by omega)).mono ?_
        rintro e w1 ⟨rfl, hb⟩
        have B0 := N0.ext hb
        have B2 := N2.ext hb
        have B3 := N3.ext hb
        have c3 := B3.cell
        have f3 := B3.frozen
        go_wp2
        go_meet
        refine ⟨_, _, _, _, (dop_0 ‹_›), rfl, ((B0.far (by omega) _).far (by omega) _).far (by omega) _, ((B2.far (by omega) _).far (by omega) _).far (by omega) _, ((B3.put 0 _).put 1 _).put 2 _, ?_⟩
        (repeat (first | with_reducible exact ext_refl _ | with_reducible refine ext_alloc ?_ _ | with_reducible refine ext_set ?_ (by omega) _ | with_reducible refine ext_drew ?_ | with_reducible refine ext_step ?_ (by assumption)))
      · refine (rrenew_any _ _ _ _ _ _ _ _ (by omega)).mono ?_
        rintro e w1 ⟨rfl, hb⟩
        have B0 := N0.ext hb
        have B2 := N2.ext hb
        have B3 := N3.ext hb
        have c3 := B3.cell
        have f3 := B3.frozen
        go_wp2
        go_meet
        refine ⟨_, _, _, _, ((dop_1 ‹_› ‹_›).trans (by rw [tok_f rfl])), rfl, ((B0.far (by omega) _).far (by omega) _).far (by omega) _, ((B2.far (by omega) _).far (by omega) _).far (by omega) _, ((B3.put 0 _).put 1 _).put 2 _, ?_⟩
        (repeat (first | with_reducible exact ext_refl _ | with_reducible refine ext_alloc ?_ _ | with_reducible refine ext_set ?_ (by omega) _ | with_reducible refine ext_drew ?_ | with_reducible refine ext_step ?_ (by assumption)))
      · refine (rrelease_any _ _ _ _ _ _ _).mono ?_
        rintro e w1 ⟨rfl, hb⟩
        have B0 := N0.ext hb
        have B2 := N2.ext hb
        have B3 := N3.ext hb
        have c3 := B3.cell
        have f3 := B3.frozen
        go_wp2
        go_meet
        refine ⟨_, _, _, _, ((dop_2 ‹_› ‹_› ‹_›).trans (by rw [tok_f rfl])), rfl, ((B0.far (by omega) _).far (by omega) _).far (by omega) _, ((B2.far (by omega) _).far (by omega) _).far (by omega) _, ((B3.put 0 _).put 1 _).put 2 _, ?_⟩
        (repeat (first | with_reducible exact ext_refl _ | with_reducible refine ext_alloc ?_ _ | with_reducible refine ext_set ?_ (by omega) _ | with_reducible refine ext_drew ?_ | with_reducible refine ext_step ?_ (by assumption)))
      · go_meet
        refine ⟨_, _, _, _, dop_3 ‹_› ‹_› ‹_›, rfl, ?_, ?_, ?_, ?_⟩
        · (repeat (first | assumption | (with_reducible refine Blk.new' ?_; simp; done) | with_reducible refine Blk.alloc ?_ _ | with_reducible refine Blk.drew ?_ | with_reducible refine Blk.ext ?_ (by assumption)))
        · (repeat (first | assumption | (with_reducible refine Blk.new' ?_; simp; done) | with_reducible refine Blk.alloc ?_ _ | with_reducible refine Blk.drew ?_ | with_reducible refine Blk.ext ?_ (by assumption)))
        · (repeat (first | assumption | (with_reducible refine Blk.new' ?_; simp; done) | with_reducible refine Blk.alloc ?_ _ | with_reducible refine Blk.drew ?_ | with_reducible refine Blk.ext ?_ (by assumption)))
        · (repeat (first | with_reducible exact ext_refl _ | with_reducible refine ext_alloc ?_ _ | with_reducible refine ext_set ?_ (by omega) _ | with_reducible refine ext_drew ?_ | with_reducible refine ext_step ?_ (by assumption)))
    case rest =>
      obtain ⟨a, b, c, er, HR0, rfl, B0, B2, B3, hB⟩ := hcut
      have HR := hid HR0
      clear HR0 N0 N2 N3
      have c0 := B0.cell
      have f0 := B0.frozen
      have c2 := B2.cell
      have f2 := B2.frozen
      have c3 := B3.cell
      have f3 := B3.frozen
      by_cases he : er = 0
      · subst he
        go_wp2
        refine bodyPost_ret (by simp [results, Try.results25, go_sem, *]; rfl) rfl ⟨?_, ?_⟩
        · rw [dnx_0 HR.out, HR.out]
        · (repeat (first | with_reducible exact ext_refl _ | with_reducible refine ext_alloc ?_ _ | with_reducible refine ext_set ?_ (by omega) _ | with_reducible refine ext_drew ?_ | with_reducible refine ext_step ?_ (by assumption)))
      · have he' : (er != 0) = true := by simpa using he
        have He := hid he
        clear he
        go_wp2
        refine bodyPost_ret (by simp [results, Try.results25, go_sem, *]; rfl) rfl ⟨?_, ?_⟩
        · rw [dnx_1 HR.out He.out, HR.out]
        · (repeat (first | with_reducible exact ext_refl _ | with_reducible refine ext_alloc ?_ _ | with_reducible refine ext_set ?_ (by omega) _ | with_reducible refine ext_drew ?_ | with_reducible refine ext_step ?_ (by assumption)))
  · have N0 := (((Blk.new w 23 #[.int .i64 hd, .int .i64 tk, .int .i64 un]).alloc (.cells #[.int .u8 k, .int .u8 wh, .int .u8 wt, .int .u8 tl, .bool true] 43)).alloc (.cells #[.int .i64 0, .int .i64 0, .int .i64 0] 23)).alloc (.cells #[.int .i64 0, .int .i64 0, .int .i64 0] 23)
    have N2 := (Blk.new ((w.alloc (.cells #[.int .i64 hd, .int .i64 tk, .int .i64 un] 23)).alloc (.cells #[.int .u8 k, .int .u8 wh, .int .u8 wt, .int .u8 tl, .bool true] 43)) 23 #[.int .i64 0, .int .i64 0, .int .i64 0]).alloc (.cells #[.int .i64 0, .int .i64 0, .int .i64 0] 23)
    have N3 := Blk.new (((w.alloc (.cells #[.int .i64 hd, .int .i64 tk, .int .i64 un] 23)).alloc (.cells #[.int .u8 k, .int .u8 wh, .int .u8 wt, .int .u8 tl, .bool true] 43)).alloc (.cells #[.int .i64 0, .int .i64 0, .int .i64 0] 23)) 23 #[.int .i64 0, .int .i64 0, .int .i64 0]
    simp only [World.size_alloc] at N2 N3
    go_upto_block 0 with (fail)
    go_cut [11] (fun s11 wx => ∃ a b c er, dop hd tk un now k wh wt tl true = (a, b, c, er) ∧ s11 = .int .i64 er ∧ Blk wx w.heap.size 23 #[.int .i64 hd, .int .i64 tk, .int .i64 un] ∧ Blk wx (w.heap.size + 1 + 1) 23 #[.int .i64 0, .int .i64 0, .int .i64 0] ∧ Blk wx (w.heap.size + 1 + 1 + 1) 23 #[.int .i64 a, .int .i64 b, .int .i64 c] ∧ Below w.heap.size w wx)
    case first =>
      go_wp2_with fail
      · refine (racquire_any _ _ _ _ _ _ _ ⟨by omega, by omega⟩ (by omega)).mono ?_
        rintro e w1 ⟨rfl, hb⟩
        have B0 := N0.ext hb
        have B2 := N2.ext hb
        have B3 := N3.ext hb
        have c3 := B3.cell
        have f3 := B3.frozen
        go_wp2
        go_meet
        refine ⟨_, _, _, _, (dop_0 ‹_›), rfl, ((B0.far (by omega) _).far (by omega) _).far (by omega) _, ((B2.far (by omega) _).far (by omega) _).far (by omega) _, ((B3.put 0 _).put 1 _).put 2 _, ?_⟩
        (repeat (first | with_reducible exact ext_refl _ | with_reducible refine ext_alloc ?_ _ | with_reducible refine ext_set ?_ (by omega) _ | with_reducible refine ext_drew ?_ | with_reducible refine ext_step ?_ (by assumption)))
      · refine (rrenew_any _ _ _ _ _ _ _ _ (by omega)).mono ?_
        rintro e w1 ⟨rfl, hb⟩
        have B0 := N0.ext hb
        have B2 := N2.ext hb
        have B3 := N3.ext hb
        have c3 := B3.cell
        have f3 := B3.frozen
        go_wp2
        go_meet
        refine ⟨_, _, _, _, ((dop_1 ‹_› ‹_›).trans (by rw [tok_t rfl])), rfl, ((B0.far (by omega) _).far (by omega) _).far (by omega) _, ((B2.far (by omega) _).far (by omega) _).far (by omega) _, ((B3.put 0 _).put 1 _).put 2 _, ?_⟩
        (repeat (first | with_reducible exact ext_refl _ | with_reducible refine ext_alloc ?_ _ | with_reducible refine ext_set ?_ (by omega) _ | with_reducible refine ext_drew ?_ | with_reducible refine ext_step ?_ (by assumption)))
      · refine (rrelease_any _ _ _ _ _ _ _).mono ?_
        rintro e w1 ⟨rfl, hb⟩
        have B0 := N0.ext hb
        have B2 := N2.ext hb
        have B3 := N3.ext hb
        have c3 := B3.cell
        have f3 := B3.frozen
        go_wp2
        go_meet
        refine ⟨_, _, _, _, ((dop_2 ‹_› ‹_› ‹_›).trans (by rw [tok_t rfl])), rfl, ((B0.far (by omega) _).far (by omega) _).far (by omega) _, ((B2.far (by omega) _).far (by omega) _).far (by omega) _, ((B3.put 0 _).put 1 _).put 2 _, ?_⟩
        (repeat (first | with_reducible exact ext_refl _ | with_reducible refine ext_alloc ?_ _ | with_reducible refine ext_set ?_ (by omega) _ | with_reducible refine ext_drew ?_ | with_reducible refine ext_step ?_ (by assumption)))
      · go_meet
        refine ⟨_, _, _, _, dop_3 ‹_› ‹_› ‹_›, rfl, ?_, ?_, ?_, ?_⟩
        · (repeat (first | assumption | (with_reducible refine Blk.new' ?_; simp; done) | with_reducible refine Blk.alloc ?_ _ | with_reducible refine Blk.drew ?_ | with_reducible refine Blk.ext ?_ (by assumption)))
        · (repeat (first | assumption | (with_reducible refine Blk.new' ?_; simp; done) | with_reducible refine Blk.alloc ?_ _ | with_reducible refine Blk.drew ?_ | with_reducible refine Blk.ext ?_ (by assumption)))
        · (repeat (first | assumption | (with_reducible refine Blk.new' ?_; simp; done) | with_reducible refine Blk.alloc ?_ _ | with_reducible refine Blk.drew ?_ | with_reducible refine Blk.ext ?_ (by assumption)))
        · (repeat (first | with_reducible exact ext_refl _ | with_reducible refine ext_alloc ?_ _ | with_reducible refine ext_set ?_ (by omega) _ | with_reducible refine ext_drew ?_ | with_reducible refine ext_step ?_ (by assumption)))
    case rest =>
      obtain ⟨a, b, c, er, HR0, rfl, B0, B2, B3, hB⟩ := hcut
      have HR := hid HR0
      clear HR0 N0 N2 N3
      have c0 := B0.cell
      have f0 := B0.frozen
      have c2 := B2.cell
      have f2 := B2.frozen
      have c3 := B3.cell
      have f3 := B3.frozen
      by_cases he : er = 0
      · subst he
        go_wp2
        refine bodyPost_ret (by simp [results, Try.results25, go_sem, *]; rfl) rfl ⟨?_, ?_⟩
        · rw [dnx_0 HR.out, HR.out]
        · (repeat (first | with_reducible exact ext_refl _ | with_reducible refine ext_alloc ?_ _ | with_reducible refine ext_set ?_ (by omega) _ | with_reducible refine ext_drew ?_ | with_reducible refine ext_step ?_ (by assumption)))
      · have he' : (er != 0) = true := by simpa using he
        have He := hid he
        clear he
        go_wp2
        refine bodyPost_ret (by simp [results, Try.results25, go_sem, *]; rfl) rfl ⟨?_, ?_⟩
        · rw [dnx_1 HR.out He.out, HR.out]
        · (repeat (first | with_reducible exact ext_refl _ | with_reducible refine ext_alloc ?_ _ | with_reducible refine ext_set ?_ (by omega) _ | with_reducible refine ext_drew ?_ | with_reducible refine ext_step ?_ (by assumption)))
end Go.Proofs.Ytgegkemoefcdnaa
