/-
  The walk of LeaseScript: over any list of operations the law returns true and changes nothing that was there.
-/
import Derived.Test.YtgegkemoefcdnaaLeasePlainB
namespace Go.Proofs.Ytgegkemoefcdnaa
open Go.RowKit
set_option linter.unusedSimpArgs false
set_option linter.unusedVariables false
set_option maxHeartbeats 2000000
set_option maxRecDepth 100000
/-- The cells of a list of operations: n of them from an address on. -/
def OpsAt (w : World) (A : Option Addr) (n : Nat) : Prop :=
  ∀ k, k < n → ∃ (b off : Nat) (ka kb kc kd : Int) (ke : Bool), A = some ⟨b, off, none⟩ ∧ b < w.heap.size ∧ w.cell? ⟨b, off + k * 5, none⟩ = some (.int .u8 ka) ∧ w.cell? ⟨b, off + k * 5 + 1, none⟩ = some (.int .u8 kb) ∧ w.cell? ⟨b, off + k * 5 + 2, none⟩ = some (.int .u8 kc) ∧
    w.cell? ⟨b, off + k * 5 + 3, none⟩ = some (.int .u8 kd) ∧ w.cell? ⟨b, off + k * 5 + 4, none⟩ = some (.bool ke) ∧ U8 ka ∧ U8 kb ∧ U8 kc ∧ U8 kd
theorem leaseScript_any (A : Option Addr) (n c : Nat) (w : World) (ho : OpsAt w A n) (hn : n ≤ 40) :
    Calls Try.prog 8 #[.slice A n c] w fun e w' => e = .returned (.bool true) ∧ Below w.heap.size w w' := by
  have Ho := hid ho
  clear ho
  go_enter Try.func8, Try.ntmps8
  go_wp2_with fail
  refine (awake_any _).mono ?_
  rintro e w1 ⟨rfl, hb1⟩
  obtain ⟨hc1, hf1⟩ := bcell hb1
  have hz1 := hb1.size
  try simp at hz1
  go_wp2_with fail
  refine (free_any _).mono ?_
  rintro e w2 ⟨rfl, hb2⟩
  obtain ⟨hc2, hf2⟩ := bcell hb2
  have hz2 := hb2.size
  try simp at hz2
  have hB2 : Below w.heap.size w w2 := by (repeat (first | with_reducible exact ext_refl _ | with_reducible refine ext_alloc ?_ _ | with_reducible refine ext_set ?_ (by omega) _ | with_reducible refine ext_drew ?_ | with_reducible refine ext_step ?_ (by assumption)))
  go_wp2_with fail
  go_loopw [4, 24] (fun nowv iv wr => ∃ (k : Nat) (hd tk un now : Int), k ≤ n ∧ iv = .int .i64 k ∧ nowv = .int .i64 now ∧ LeaseOK k hd tk un now ∧ Blk wr w2.heap.size 23 #[.int .i64 hd, .int .i64 tk, .int .i64 un] ∧ Below w.heap.size w wr) (fun _ iv _ => n - (intOf iv).toNat)
  case atStart => exact ⟨0, -1, 0, 0, 0, Nat.zero_le _, rfl, rfl, by simp [LeaseOK], Blk.new _ _ _, ext_alloc hB2 _⟩
  case round =>
    obtain ⟨k, hd, tk, un, now, hk, rfl, rfl, hL, hX, hB⟩ := hrel
    by_cases hlt : k < n
    · obtain ⟨b, off, ka, kb, kc, kd, ke, rfl, hbl, q0, q1, q2, q3, q4, ⟨u0, u0'⟩, ⟨u1, u1'⟩, ⟨u2, u2'⟩, ⟨u3, u3'⟩⟩ := Ho.out k hlt
      have p0 := (hB.cell (p := ⟨b, off + k * 5, none⟩) hbl).trans q0
      have p1 := (hB.cell (p := ⟨b, off + k * 5 + 1, none⟩) hbl).trans q1
      have p2 := (hB.cell (p := ⟨b, off + k * 5 + 2, none⟩) hbl).trans q2
      have p3 := (hB.cell (p := ⟨b, off + k * 5 + 3, none⟩) hbl).trans q3
      have p4 := (hB.cell (p := ⟨b, off + k * 5 + 4, none⟩) hbl).trans q4
      clear q0 q1 q2 q3 q4
      have zX := hX.lt
      have cX := hX.cell
      have fX := hX.frozen
      have hm : 0 ≤ kc % 8 := by omega
      have hm' : kc % 8 < 8 := by omega
      obtain ⟨l1, l2, l3, l4, l5, l6, l7, l8⟩ := hL
      have HL : Hid (LeaseOK k hd tk un now) := ⟨l1, l2, l3, l4, l5, l6, l7, l8⟩
      obtain ⟨na, nb, nc, hN⟩ : ∃ na nb nc, dnx hd tk un now ka kb kc kd ke = (na, nb, nc) := ⟨_, _, _, rfl⟩
      have HK : Hid (LeaseOK (k + 1) na nb nc (now + kc % 8)) := by have := dnx_ok (old := ke) HL.out (by omega) u0 u0' u1 u1' u2 u2' u3 u3'; rw [hN] at this; exact this
      have ht : tk ≤ nb := by have := dnx_token (k := ka) (wh := kb) (wt := kc) (tl := kd) (old := ke) HL.out; rw [hN] at this; exact this
      have hg : 0 ≤ holderI na nb nc (now + kc % 8) → holderI hd tk un (now + kc % 8) < 0 → ¬ nb = tk := by have := dnx_grant (k := ka) (wh := kb) (wt := kc) (tl := kd) (old := ke) HL.out; rw [hN] at this; exact this
      have Hg := hid hg
      clear hg
      obtain ⟨a, b', c', er, hD⟩ : ∃ a b c er, dop hd tk un now ka kb kc kd ke = (a, b, c, er) := ⟨_, _, _, _, rfl⟩
      have hE : (er = 0 ∧ a = na ∧ b' = nb ∧ c' = nc) ∨ (¬ er = 0 ∧ a = 0 ∧ b' = 0 ∧ c' = 0) := by
        by_cases he : er = 0
        · subst he; have h1 := dnx_0 hD; rw [hN] at h1; simp at h1; exact .inl ⟨rfl, h1.1.symm, h1.2.1.symm, h1.2.2.symm⟩
        · have h1 := dop_err (by rw [hD]; exact he); rw [hD] at h1; simp at h1; exact .inr ⟨he, h1.1, h1.2.1, h1.2.2⟩
      have hcase : (0 ≤ holderI na nb nc (now + kc % 8) ∧ holderI hd tk un (now + kc % 8) < 0) ∨ (0 ≤ holderI na nb nc (now + kc % 8) ∧ 0 ≤ holderI hd tk un (now + kc % 8)) ∨ holderI na nb nc (now + kc % 8) < 0 := by omega
      rcases hE with ⟨rfl, rfl, rfl, rfl⟩ | ⟨he, rfl, rfl, rfl⟩
      · rcases hcase with ⟨g1, g2⟩ | ⟨g1, g2⟩ | g1
        · have g3 : (b' == tk) = false := by simpa using Hg.out g1 g2
          go_wp2_with fail
          refine (do_any _ _ _ _ _ _ _ _ _ _ l3 (by omega) l7 (by omega) u0 u0' u1 u1' u2 u2' u3 u3').mono ?_
          rintro e w3 ⟨rfl, hb3⟩
          obtain ⟨hc3, hf3⟩ := bcell hb3
          have hz3 := hb3.size
          try simp at hz3
          have z3_0 : w2.heap.size < w3.heap.size := by omega
          have z3_1 : wr.heap.size < w3.heap.size := by omega
          go_wp2_with fail
          refine (rdo_any _ _ _ _ _ _ _ _ _ _ l3 (by omega) l7 (by omega) u0 u0' u1 u1' u2 u2' u3 u3').mono ?_
          rintro e w4 ⟨rfl, hb4⟩
          obtain ⟨hc4, hf4⟩ := bcell hb4
          have hz4 := hb4.size
          try simp at hz4
          have z4_0 : w2.heap.size < w4.heap.size := by omega
          have z4_1 : wr.heap.size < w4.heap.size := by omega
          have z4_2 : w3.heap.size < w4.heap.size := by omega
          go_wp2_with (first | (go_at_call 19; refine (holder_any _ _ _ _ _).mono ?_; rintro e w5 ⟨rfl, hb⟩; obtain ⟨hc, hf⟩ := bcell hb; have hz := hb.size; (try simp at hz); have zc0 : w2.heap.size < w5.heap.size := (by omega); have zc1 : wr.heap.size < w5.heap.size := (by omega); have zc2 : w3.heap.size < w5.heap.size := (by omega); have zc3 : w4.heap.size < w5.heap.size := (by omega)))
          have hZ : Blk w5 w2.heap.size 23 #[.int .i64 hd, .int .i64 tk, .int .i64 un] := by (repeat (first | assumption | (with_reducible refine Blk.new' ?_; simp; done) | with_reducible refine Blk.alloc ?_ _ | with_reducible refine Blk.drew ?_ | with_reducible refine Blk.ext ?_ (by assumption)))
          go_roundw
          case rel =>
            refine ⟨k + 1, _, _, _, _, by omega, by go_num, rfl, HK.out, ((hZ.put 0 _).put 1 _).put 2 _, ?_⟩
            (repeat (first | with_reducible exact ext_refl _ | with_reducible refine ext_alloc ?_ _ | with_reducible refine ext_set ?_ (by omega) _ | with_reducible refine ext_drew ?_ | with_reducible refine ext_step ?_ (by assumption)))
          case measure => simp [intOf]; omega
        · go_wp2_with fail
          refine (do_any _ _ _ _ _ _ _ _ _ _ l3 (by omega) l7 (by omega) u0 u0' u1 u1' u2 u2' u3 u3').mono ?_
          rintro e w3 ⟨rfl, hb3⟩
          obtain ⟨hc3, hf3⟩ := bcell hb3
          have hz3 := hb3.size
          try simp at hz3
          have z3_0 : w2.heap.size < w3.heap.size := by omega
          have z3_1 : wr.heap.size < w3.heap.size := by omega
          go_wp2_with fail
          refine (rdo_any _ _ _ _ _ _ _ _ _ _ l3 (by omega) l7 (by omega) u0 u0' u1 u1' u2 u2' u3 u3').mono ?_
          rintro e w4 ⟨rfl, hb4⟩
          obtain ⟨hc4, hf4⟩ := bcell hb4
          have hz4 := hb4.size
          try simp at hz4
          have z4_0 : w2.heap.size < w4.heap.size := by omega
          have z4_1 : wr.heap.size < w4.heap.size := by omega
          have z4_2 : w3.heap.size < w4.heap.size := by omega
          go_wp2_with (first | (go_at_call 19; refine (holder_any _ _ _ _ _).mono ?_; rintro e w5 ⟨rfl, hb⟩; obtain ⟨hc, hf⟩ := bcell hb; have hz := hb.size; (try simp at hz); have zc0 : w2.heap.size < w5.heap.size := (by omega); have zc1 : wr.heap.size < w5.heap.size := (by omega); have zc2 : w3.heap.size < w5.heap.size := (by omega); have zc3 : w4.heap.size < w5.heap.size := (by omega)))
          have hZ : Blk w5 w2.heap.size 23 #[.int .i64 hd, .int .i64 tk, .int .i64 un] := by (repeat (first | assumption | (with_reducible refine Blk.new' ?_; simp; done) | with_reducible refine Blk.alloc ?_ _ | with_reducible refine Blk.drew ?_ | with_reducible refine Blk.ext ?_ (by assumption)))
          go_roundw
          case rel =>
            refine ⟨k + 1, _, _, _, _, by omega, by go_num, rfl, HK.out, ((hZ.put 0 _).put 1 _).put 2 _, ?_⟩
            (repeat (first | with_reducible exact ext_refl _ | with_reducible refine ext_alloc ?_ _ | with_reducible refine ext_set ?_ (by omega) _ | with_reducible refine ext_drew ?_ | with_reducible refine ext_step ?_ (by assumption)))
          case measure => simp [intOf]; omega
        · go_wp2_with fail
          refine (do_any _ _ _ _ _ _ _ _ _ _ l3 (by omega) l7 (by omega) u0 u0' u1 u1' u2 u2' u3 u3').mono ?_
          rintro e w3 ⟨rfl, hb3⟩
          obtain ⟨hc3, hf3⟩ := bcell hb3
          have hz3 := hb3.size
          try simp at hz3
          have z3_0 : w2.heap.size < w3.heap.size := by omega
          have z3_1 : wr.heap.size < w3.heap.size := by omega
          go_wp2_with fail
          refine (rdo_any _ _ _ _ _ _ _ _ _ _ l3 (by omega) l7 (by omega) u0 u0' u1 u1' u2 u2' u3 u3').mono ?_
          rintro e w4 ⟨rfl, hb4⟩
          obtain ⟨hc4, hf4⟩ := bcell hb4
          have hz4 := hb4.size
          try simp at hz4
          have z4_0 : w2.heap.size < w4.heap.size := by omega
          have z4_1 : wr.heap.size < w4.heap.size := by omega
          have z4_2 : w3.heap.size < w4.heap.size := by omega
          go_wp2_with (first | (go_at_call 19; refine (holder_any _ _ _ _ _).mono ?_; rintro e w5 ⟨rfl, hb⟩; obtain ⟨hc, hf⟩ := bcell hb; have hz := hb.size; (try simp at hz); have zc0 : w2.heap.size < w5.heap.size := (by omega); have zc1 : wr.heap.size < w5.heap.size := (by omega); have zc2 : w3.heap.size < w5.heap.size := (by omega); have zc3 : w4.heap.size < w5.heap.size := (by omega)))
          have hZ : Blk w5 w2.heap.size 23 #[.int .i64 hd, .int .i64 tk, .int .i64 un] := by (repeat (first | assumption | (with_reducible refine Blk.new' ?_; simp; done) | with_reducible refine Blk.alloc ?_ _ | with_reducible refine Blk.drew ?_ | with_reducible refine Blk.ext ?_ (by assumption)))
          go_roundw
          case rel =>
            refine ⟨k + 1, _, _, _, _, by omega, by go_num, rfl, HK.out, ((hZ.put 0 _).put 1 _).put 2 _, ?_⟩
            (repeat (first | with_reducible exact ext_refl _ | with_reducible refine ext_alloc ?_ _ | with_reducible refine ext_set ?_ (by omega) _ | with_reducible refine ext_drew ?_ | with_reducible refine ext_step ?_ (by assumption)))
          case measure => simp [intOf]; omega
      · have he1 : (er != 0) = true := by simpa using he
        have he2 : (er == 0) = false := by simpa using he
        clear he
        rcases hcase with ⟨g1, g2⟩ | ⟨g1, g2⟩ | g1
        · have g3 : (nb == tk) = false := by simpa using Hg.out g1 g2
          go_wp2_with fail
          refine (do_any _ _ _ _ _ _ _ _ _ _ l3 (by omega) l7 (by omega) u0 u0' u1 u1' u2 u2' u3 u3').mono ?_
          rintro e w3 ⟨rfl, hb3⟩
          obtain ⟨hc3, hf3⟩ := bcell hb3
          have hz3 := hb3.size
          try simp at hz3
          have z3_0 : w2.heap.size < w3.heap.size := by omega
          have z3_1 : wr.heap.size < w3.heap.size := by omega
          go_wp2_with fail
          refine (rdo_any _ _ _ _ _ _ _ _ _ _ l3 (by omega) l7 (by omega) u0 u0' u1 u1' u2 u2' u3 u3').mono ?_
          rintro e w4 ⟨rfl, hb4⟩
          obtain ⟨hc4, hf4⟩ := bcell hb4
          have hz4 := hb4.size
          try simp at hz4
          have z4_0 : w2.heap.size < w4.heap.size := by omega
          have z4_1 : wr.heap.size < w4.heap.size := by omega
          have z4_2 : w3.heap.size < w4.heap.size := by omega
          go_wp2_with (first | (go_at_call 19; refine (holder_any _ _ _ _ _).mono ?_; rintro e w5 ⟨rfl, hb⟩; obtain ⟨hc, hf⟩ := bcell hb; have hz := hb.size; (try simp at hz); have zc0 : w2.heap.size < w5.heap.size := (by omega); have zc1 : wr.heap.size < w5.heap.size := (by omega); have zc2 : w3.heap.size < w5.heap.size := (by omega); have zc3 : w4.heap.size < w5.heap.size := (by omega)))
          have hZ : Blk w5 w2.heap.size 23 #[.int .i64 hd, .int .i64 tk, .int .i64 un] := by (repeat (first | assumption | (with_reducible refine Blk.new' ?_; simp; done) | with_reducible refine Blk.alloc ?_ _ | with_reducible refine Blk.drew ?_ | with_reducible refine Blk.ext ?_ (by assumption)))
          go_roundw
          case rel =>
            refine ⟨k + 1, _, _, _, _, by omega, by go_num, rfl, HK.out, ((hZ.put 0 _).put 1 _).put 2 _, ?_⟩
            (repeat (first | with_reducible exact ext_refl _ | with_reducible refine ext_alloc ?_ _ | with_reducible refine ext_set ?_ (by omega) _ | with_reducible refine ext_drew ?_ | with_reducible refine ext_step ?_ (by assumption)))
          case measure => simp [intOf]; omega
        · go_wp2_with fail
          refine (do_any _ _ _ _ _ _ _ _ _ _ l3 (by omega) l7 (by omega) u0 u0' u1 u1' u2 u2' u3 u3').mono ?_
          rintro e w3 ⟨rfl, hb3⟩
          obtain ⟨hc3, hf3⟩ := bcell hb3
          have hz3 := hb3.size
          try simp at hz3
          have z3_0 : w2.heap.size < w3.heap.size := by omega
          have z3_1 : wr.heap.size < w3.heap.size := by omega
          go_wp2_with fail
          refine (rdo_any _ _ _ _ _ _ _ _ _ _ l3 (by omega) l7 (by omega) u0 u0' u1 u1' u2 u2' u3 u3').mono ?_
          rintro e w4 ⟨rfl, hb4⟩
          obtain ⟨hc4, hf4⟩ := bcell hb4
          have hz4 := hb4.size
          try simp at hz4
          have z4_0 : w2.heap.size < w4.heap.size := by omega
          have z4_1 : wr.heap.size < w4.heap.size := by omega
          have z4_2 : w3.heap.size < w4.heap.size := by omega
          go_wp2_with (first | (go_at_call 19; refine (holder_any _ _ _ _ _).mono ?_; rintro e w5 ⟨rfl, hb⟩; obtain ⟨hc, hf⟩ := bcell hb; have hz := hb.size; (try simp at hz); have zc0 : w2.heap.size < w5.heap.size := (by omega); have zc1 : wr.heap.size < w5.heap.size := (by omega); have zc2 : w3.heap.size < w5.heap.size := (by omega); have zc3 : w4.heap.size < w5.heap.size := (by omega)))
          have hZ : Blk w5 w2.heap.size 23 #[.int .i64 hd, .int .i64 tk, .int .i64 un] := by (repeat (first | assumption | (with_reducible refine Blk.new' ?_; simp; done) | with_reducible refine Blk.alloc ?_ _ | with_reducible refine Blk.drew ?_ | with_reducible refine Blk.ext ?_ (by assumption)))
          go_roundw
          case rel =>
            refine ⟨k + 1, _, _, _, _, by omega, by go_num, rfl, HK.out, ((hZ.put 0 _).put 1 _).put 2 _, ?_⟩
            (repeat (first | with_reducible exact ext_refl _ | with_reducible refine ext_alloc ?_ _ | with_reducible refine ext_set ?_ (by omega) _ | with_reducible refine ext_drew ?_ | with_reducible refine ext_step ?_ (by assumption)))
          case measure => simp [intOf]; omega
        · go_wp2_with fail
          refine (do_any _ _ _ _ _ _ _ _ _ _ l3 (by omega) l7 (by omega) u0 u0' u1 u1' u2 u2' u3 u3').mono ?_
          rintro e w3 ⟨rfl, hb3⟩
          obtain ⟨hc3, hf3⟩ := bcell hb3
          have hz3 := hb3.size
          try simp at hz3
          have z3_0 : w2.heap.size < w3.heap.size := by omega
          have z3_1 : wr.heap.size < w3.heap.size := by omega
          go_wp2_with fail
          refine (rdo_any _ _ _ _ _ _ _ _ _ _ l3 (by omega) l7 (by omega) u0 u0' u1 u1' u2 u2' u3 u3').mono ?_
          rintro e w4 ⟨rfl, hb4⟩
          obtain ⟨hc4, hf4⟩ := bcell hb4
          have hz4 := hb4.size
          try simp at hz4
          have z4_0 : w2.heap.size < w4.heap.size := by omega
          have z4_1 : wr.heap.size < w4.heap.size := by omega
          have z4_2 : w3.heap.size < w4.heap.size := by omega
          go_wp2_with (first | (go_at_call 19; refine (holder_any _ _ _ _ _).mono ?_; rintro e w5 ⟨rfl, hb⟩; obtain ⟨hc, hf⟩ := bcell hb; have hz := hb.size; (try simp at hz); have zc0 : w2.heap.size < w5.heap.size := (by omega); have zc1 : wr.heap.size < w5.heap.size := (by omega); have zc2 : w3.heap.size < w5.heap.size := (by omega); have zc3 : w4.heap.size < w5.heap.size := (by omega)))
          have hZ : Blk w5 w2.heap.size 23 #[.int .i64 hd, .int .i64 tk, .int .i64 un] := by (repeat (first | assumption | (with_reducible refine Blk.new' ?_; simp; done) | with_reducible refine Blk.alloc ?_ _ | with_reducible refine Blk.drew ?_ | with_reducible refine Blk.ext ?_ (by assumption)))
          go_roundw
          case rel =>
            refine ⟨k + 1, _, _, _, _, by omega, by go_num, rfl, HK.out, ((hZ.put 0 _).put 1 _).put 2 _, ?_⟩
            (repeat (first | with_reducible exact ext_refl _ | with_reducible refine ext_alloc ?_ _ | with_reducible refine ext_set ?_ (by omega) _ | with_reducible refine ext_drew ?_ | with_reducible refine ext_step ?_ (by assumption)))
          case measure => simp [intOf]; omega
    · go_wp2
      go_ret
      exact ⟨rfl, hB⟩
theorem leaseScript_long (A : Option Addr) (n c : Nat) (w : World) (hn : 40 < n) (hm : n ≤ 9223372036854775807) :
    Calls Try.prog 8 #[.slice A n c] w fun e w' => e = .returned (.bool true) ∧ Below w.heap.size w w' := by
  go_enter Try.func8, Try.ntmps8
  go_wp2_with fail
  refine (awake_any _).mono ?_
  rintro e w1 ⟨rfl, hb1⟩
  obtain ⟨hc1, hf1⟩ := bcell hb1
  have hz1 := hb1.size
  try simp at hz1
  go_wp2_with fail
  refine (awake_any _).mono ?_
  rintro e w2 ⟨rfl, hb2⟩
  obtain ⟨hc2, hf2⟩ := bcell hb2
  have hz2 := hb2.size
  try simp at hz2
  go_wp2
  go_ret
  refine ⟨rfl, ?_⟩
  (repeat (first | with_reducible exact ext_refl _ | with_reducible refine ext_alloc ?_ _ | with_reducible refine ext_set ?_ (by omega) _ | with_reducible refine ext_drew ?_ | with_reducible refine ext_step ?_ (by assumption)))
end Go.Proofs.Ytgegkemoefcdnaa
