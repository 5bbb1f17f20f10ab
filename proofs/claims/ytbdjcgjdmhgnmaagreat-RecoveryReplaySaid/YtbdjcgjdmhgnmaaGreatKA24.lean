import Derived.Test.YtbdjcgjdmhgnmaaGreatKA13
import Derived.Test.YtbdjcgjdmhgnmaaGreatKA14
import Derived.Test.YtbdjcgjdmhgnmaaGreatKA23
namespace Go.Proofs.YtbdjcgjdmhgnmaaGreat
open Go Go.RowKit
set_option linter.unusedSimpArgs false
set_option linter.unusedVariables false
theorem CtlK.beginR {p : Prob} {rs : List Int} {c : CtlD} (h : CtlK p c) (h0 : c.phase = 0) : CtlK p (beginR p rs c) := by
 have hlt := h.lt (by omega)
 have hr := h.rng
 have hs := h.st (by omega)
 unfold Go.Proofs.YtbdjcgjdmhgnmaaGreat.beginR
 by_cases k3 : (present c).kind = 3
 ·rw [if_pos k3]
  exact ctlK_mk h.plan ⟨hr.1, hlt⟩ (.inr (.inr (.inr (.inr (.inl ⟨rfl, k3, h.mix0 h0 (by omega)⟩)))))
 ·rw [if_neg k3]
  by_cases k1 : (present c).kind = 1
  ·refine ctlK_mk h.plan ⟨hr.1, hlt⟩ (.inl ⟨rfl, k1, ?_⟩)
   show (if (present c).kind = 1 then afterM p c.mix (present c) else c.mix) = _
   rw [if_pos k1]
   unfold afterM
   rw [h.after1 h0 k1]; rfl
  ·refine ctlK_mk h.plan ⟨hr.1, hlt⟩ (.inr (.inl ⟨rfl, (show (present c).kind = 2 by omega), ?_⟩))
   show (if (present c).kind = 1 then afterM p c.mix (present c) else c.mix) = _
   rw [if_neg k1]; exact h.mix0 h0 k1
theorem CtlK.doneR {p : Prob} {c : CtlD} (h : CtlK p c) (hl : c.plan.length ≤ 1000000) (hd : c.phase = 1 ∨ c.phase = 4) : CtlK p (doneR p c) := by
 have hlt := h.lt (by omega)
 have hr := h.rng
 have hs := h.ph1
 have e : w64 (c.at_ + 1) = c.at_ + 1 := w64_is (by omega)
 exact h.next_ (d := Go.Proofs.YtbdjcgjdmhgnmaaGreat.doneR p c) (by grind) rfl e (by show (if w64 (c.at_ + 1) = _ then _ else _) = _; rw [e]) rfl
theorem CtlK.bump {p : Prob} {c : CtlD} (h : CtlK p c) : CtlK p (bump c) := h.round _
theorem CtlK.abortE {p : Prob} {c : CtlD} (h : CtlK p c) (h3 : c.phase = 3) : abortM p c.mix (present c).idx = abortedP p c.plan c.at_ := by
 have := h.ph2 (.inr h3)
 rw [this.2]; rfl
theorem CtlK.resume {p : Prob} {c : CtlD} (h : CtlK p c) (h3 : c.phase = 3) (r : Int) : CtlK p { c with phase := 0, replica := r, mix := abortM p c.mix (present c).idx } := by
 have hlt := h.lt (by omega)
 have hr := h.rng
 have hk := h.ph2 (.inr h3)
 exact ⟨h.plan, h.rng, by show (0 : Int) = 6 ↔ c.at_ = c.plan.length; omega, fun _ => .inr ⟨hk.1, h.abortE h3⟩, fun a => absurd (show (0 : Int) = 1 from a) (by decide), fun a => absurd (show (0 : Int) = 2 ∨ (0 : Int) = 3 from a) (by decide), fun a => absurd (show (0 : Int) = 4 from a) (by decide), fun a => absurd (show (0 : Int) = 5 from a) (by decide), fun a => absurd (show (0 : Int) = 6 from a) (by decide), by show (0 : Int) ≤ 0 ∧ (0 : Int) ≤ 6; decide⟩
theorem CtlK.undo {p : Prob} {c : CtlD} (h : CtlK p c) (h1 : c.phase = 1) (hk : (present c).kind = 1) : CtlK p { c with phase := 3 } := by
 have hlt := h.lt (by omega)
 have hr := h.rng
 refine ctlK_mk h.plan ⟨hr.1, hlt⟩ (.inr (.inr (.inr (.inl ⟨rfl, hk, ?_⟩))))
 rcases h.ph1 h1 with ⟨_, m⟩ | ⟨k, _⟩
 ·exact m
 ·omega
theorem CtlK.one {p : Prob} {rs : List Int} {c d : CtlD} {x : EntD} (h : CtlK p c) (hl : c.plan.length ≤ 1000000) (e : oneP p rs c x = some d) : CtlK p d ∧ d.plan = c.plan ∧ (d.round = c.round ∨ d.round = w64 (c.round + 1)) := by
 unfold oneP at e
 split at e
 ·cases e; exact ⟨h, rfl, .inl rfl⟩
 ·split at e
  ·cases e
  ·split at e
   ·rename_i hc
    cases e
    refine ⟨h.bump.beginR hc.2, ?_, ?_⟩
    ·unfold Go.Proofs.YtbdjcgjdmhgnmaaGreat.beginR; split <;> rfl
    ·unfold Go.Proofs.YtbdjcgjdmhgnmaaGreat.beginR; split <;> exact .inr rfl
   ·split at e
    ·rename_i hc
     cases e
     exact ⟨h.bump.doneR hl hc.2, rfl, .inr rfl⟩
    ·split at e
     ·rename_i hc
      cases e
      exact ⟨h.bump.undo hc.2.1 hc.2.2, rfl, .inr rfl⟩
     ·split at e
      ·rename_i hc
       cases e
       exact ⟨h.bump.resume hc.2 0, rfl, .inr rfl⟩
      ·cases e
theorem newP_k {p : Prob} {rs : List Int} {l : List StepD} (hs : setErr p rs = 0) (hc : checkP p l = true) : CtlK p (newP p rs l).1 ∧ (newP p rs l).1.plan = l ∧ (newP p rs l).1.round = 0 ∧ (newP p rs l).2 = 0 := by
 have hv := (setErr_ok hs).1
 have hp := planOK_of hv (start_err hv) hc
 have e : newP p rs l = (⟨l, 0, if l.length = 0 then 6 else 0, 0, 0, 0, startM p⟩, 0) := by unfold newP; rw [if_neg (by simpa using hs), hc, if_neg (by decide)]
 have hm : startM p = (mixesP p l).getD 0 nilM := by rw [hp.mix, tr_0]
 rw [e]
 refine ⟨⟨hp, by show (0 : Int) ≤ 0 ∧ (0 : Int) ≤ l.length; omega, ?_, fun _ => .inl hm, fun a => ?_, fun a => ?_, fun a => ?_, fun a => ?_, fun _ => hm, ?_⟩, rfl, rfl, rfl⟩
 ·show (if l.length = 0 then (6 : Int) else 0) = 6 ↔ (0 : Int) = l.length
  split <;> omega
 ·have a : (if l.length = 0 then (6 : Int) else 0) = 1 := a
  split at a <;> omega
 ·have a : (if l.length = 0 then (6 : Int) else 0) = 2 ∨ (if l.length = 0 then (6 : Int) else 0) = 3 := a
  split at a <;> omega
 ·have a : (if l.length = 0 then (6 : Int) else 0) = 4 := a
  split at a <;> omega
 ·have a : (if l.length = 0 then (6 : Int) else 0) = 5 := a
  split at a <;> omega
 ·show (0 : Int) ≤ (if l.length = 0 then 6 else 0) ∧ (if l.length = 0 then (6 : Int) else 0) ≤ 6
  split <;> omega
def oneD (p : Prob) (rs : List Int) (c : CtlD) (x : EntD) : CtlD := (oneP p rs c x).getD (if ¬ x.idx = c.at_ then c else bump c)
end Go.Proofs.YtbdjcgjdmhgnmaaGreat

namespace Go.Proofs.YtbdjcgjdmhgnmaaGreat
open Go Go.RowKit
set_option linter.unusedSimpArgs false
set_option linter.unusedVariables false
theorem CtlK.tick {p : Prob} {rs : List Int} {c : CtlD} (h : CtlK p c) : CtlK p (tickP p rs c).1 := by
 unfold tickP
 by_cases h0 : c.phase = 0
 ·rw [if_neg (fun a => a h0)]; exact h.begin h0
 ·rw [if_pos h0]; exact h
theorem CtlK.probe {p : Prob} {c : CtlD} (h : CtlK p c) (h1 : c.phase = 1) (hk : (present c).kind = 1) : CtlK p { c with phase := 2 } := by
 have hlt := h.lt (by omega)
 refine ctlK_mk h.plan ⟨h.rng.1, hlt⟩ (.inr (.inr (.inl ⟨rfl, hk, ?_⟩)))
 rcases h.ph1 h1 with ⟨_, m⟩ | ⟨k, _⟩
 ·exact m
 ·omega
theorem CtlK.failed {p : Prob} {c : CtlD} (h : CtlK p c) (h3 : c.phase = 3) (r : Int) : CtlK p { c with mix := abortedP p c.plan c.at_, phase := 5, replica := r } := by
 have hlt := h.lt (by omega)
 exact ctlK_mk h.plan ⟨h.rng.1, hlt⟩ (.inr (.inr (.inr (.inr (.inr ⟨rfl, (h.ph2 (.inr h3)).1, rfl⟩)))))
theorem CtlK.gateNo {p : Prob} {c : CtlD} (h : CtlK p c) (h2 : c.phase = 2) : CtlK p { c with phase := 3 } := by
 have hlt := h.lt (by omega)
 have := h.ph2 (.inl h2)
 exact ctlK_mk h.plan ⟨h.rng.1, hlt⟩ (.inr (.inr (.inr (.inl ⟨rfl, this.1, this.2⟩))))
theorem CtlK.again {p : Prob} {c : CtlD} (h : CtlK p c) (h5 : c.phase = 5) : CtlK p { c with phase := 0 } := by
 have hlt := h.lt (by omega)
 have hr := h.rng
 have hk := h.ph5 h5
 exact ⟨h.plan, h.rng, by show (0 : Int) = 6 ↔ c.at_ = c.plan.length; omega, fun _ => .inr ⟨hk.1, hk.2⟩, fun a => absurd (show (0 : Int) = 1 from a) (by decide), fun a => absurd (show (0 : Int) = 2 ∨ (0 : Int) = 3 from a) (by decide), fun a => absurd (show (0 : Int) = 4 from a) (by decide), fun a => absurd (show (0 : Int) = 5 from a) (by decide), fun a => absurd (show (0 : Int) = 6 from a) (by decide), by show (0 : Int) ≤ 0 ∧ (0 : Int) ≤ 6; decide⟩
theorem CtlK.next {p : Prob} {rs : List Int} {c : CtlD} {s : SigD} (h : CtlK p c) (hl : c.plan.length ≤ 1000000) : CtlK p (nextP p rs c s).1 := by
 have hps := h.phs
 unfold nextP
 split
 ·split
  ·exact h
  ·exact (h.token _).tick
 ·split
  ·exact h
  ·split
   ·exact h.token 0
   ·split
    ·exact h.tick
    ·split
     ·rename_i hc
      unfold ackP
      split
      ·exact h
      ·split
       ·rename_i h3; exact h.failed h3 0
       ·rename_i h3
        have h1 : c.phase = 1 := by omega
        split
        ·rename_i hk; exact h.probe h1 hk
        ·rename_i hk
         have hk2 : (present c).kind = 2 := by
          rcases h.ph1 h1 with ⟨k, _⟩ | ⟨k, _⟩
          ·exact absurd k hk
          ·exact k
         split
         ·exact h.done hl (.inl ⟨h1, hk2⟩)
         ·exact h.replica _
     ·split
      ·rename_i hc
       split
       ·exact h.done hl (.inr (.inl hc.2.2))
       ·exact (h.bump).gateNo hc.2.2
      ·split
       ·rename_i hc; exact h.done hl (.inr (.inr hc.2.2.1))
       ·split
        ·rename_i hc; exact (h.bump).again hc.2
        ·exact h
structure CtlB (c : CtlD) (l : List StepD) (k : Int) : Prop where
 plan : c.plan = l
 rd : 0 ≤ c.round ∧ c.round ≤ k
 rp : 0 ≤ c.replica ∧ c.replica ≤ 1000 + k
 tk : 0 ≤ c.token
theorem CtlB.mono {c : CtlD} {l : List StepD} {k j : Int} (h : CtlB c l k) (hj : k ≤ j) : CtlB c l j := ⟨h.plan, by have := h.rd; omega, by have := h.rp; omega, h.tk⟩
theorem firstR_rng {rs : List Int} (hr : ∀ k, k < rs.length → 1 ≤ rs.getD k 0 ∧ rs.getD k 0 ≤ 4) (hl : rs.length ≤ 100) (s : Int) : 0 ≤ firstR rs s ∧ firstR rs s ≤ 400 := by
 unfold firstR
 by_cases h : s.toNat ≤ rs.length
 ·have := sum_le hr s.toNat h; omega
 ·have := sum_le hr rs.length (Nat.le_refl _)
  rw [List.take_of_length_le (by omega)]
  rw [List.take_length] at this
  omega
theorem CtlB.tick {p : Prob} {rs : List Int} {c : CtlD} {l : List StepD} {k : Int} (h : CtlB c l k) (hk : k ≤ 1000) (hr : ∀ k, k < rs.length → 1 ≤ rs.getD k 0 ∧ rs.getD k 0 ≤ 4) (hl : rs.length ≤ 100) : CtlB (tickP p rs c).1 l (k + 1) := by
 have h1 := h.rd; have h2 := h.rp
 unfold tickP
 split
 ·exact h.mono (by omega)
 ·have w : w64 (c.round + 1) = c.round + 1 := w64_is (by omega)
  have hf := firstR_rng hr hl (present c).idx
  refine ⟨h.plan, ?_, ?_, h.tk⟩
  ·show 0 ≤ w64 (c.round + 1) ∧ w64 (c.round + 1) ≤ k + 1
   rw [w]; omega
  ·show 0 ≤ (if (present c).kind = 3 then c.replica else firstR rs (present c).idx) ∧ (if (present c).kind = 3 then c.replica else firstR rs (present c).idx) ≤ 1000 + (k + 1)
   split <;> omega
theorem CtlB.next {p : Prob} {rs : List Int} {c : CtlD} {s : SigD} {l : List StepD} {k : Int} (h : CtlB c l k) (hk : k ≤ 1000) (hr : ∀ k, k < rs.length → 1 ≤ rs.getD k 0 ∧ rs.getD k 0 ≤ 4) (hl : rs.length ≤ 100) (ht : 0 ≤ s.token) : CtlB (nextP p rs c s).1 l (k + 1) := by
 have h1 := h.rd; have h2 := h.rp; have h3 := h.tk
 have w : w64 (c.round + 1) = c.round + 1 := w64_is (by omega)
 have wr : w64 (c.replica + 1) = c.replica + 1 := w64_is (by omega)
 have hd : CtlB (doneC p c) l (k + 1) := ⟨h.plan, by show 0 ≤ w64 (c.round + 1) ∧ w64 (c.round + 1) ≤ k + 1; rw [w]; omega, by show (0 : Int) ≤ 0 ∧ (0 : Int) ≤ 1000 + (k + 1); omega, h.tk⟩
 have hb : ∀ ph, CtlB { bump c with phase := ph } l (k + 1) := fun ph => ⟨h.plan, by show 0 ≤ w64 (c.round + 1) ∧ w64 (c.round + 1) ≤ k + 1; rw [w]; omega, by show 0 ≤ c.replica ∧ c.replica ≤ 1000 + (k + 1); omega, h.tk⟩
 have hm := h.mono (j := k + 1) (by omega)
 unfold nextP
 split
 ·split
  ·exact hm
  ·exact CtlB.tick (c := { c with token := s.token }) ⟨h.plan, h.rd, h.rp, ht⟩ hk hr hl
 ·split
  ·exact hm
  ·split
   ·exact ⟨hm.plan, hm.rd, hm.rp, by show (0 : Int) ≤ 0; decide⟩
   ·split
    ·exact h.tick hk hr hl
    ·split
     ·unfold ackP
      split
      ·exact hm
      ·split
       ·exact ⟨hm.plan, hm.rd, by show (0 : Int) ≤ 0 ∧ (0 : Int) ≤ 1000 + (k + 1); omega, hm.tk⟩
       ·split
        ·exact ⟨hm.plan, hm.rd, hm.rp, hm.tk⟩
        ·split
         ·exact hd
         ·exact ⟨hm.plan, hm.rd, by show 0 ≤ w64 (c.replica + 1) ∧ w64 (c.replica + 1) ≤ 1000 + (k + 1); rw [wr]; omega, hm.tk⟩
     ·split
      ·split
       ·exact hd
       ·exact hb 3
      ·split
       ·exact hd
       ·split
        ·exact hb 0
        ·exact hm
end Go.Proofs.YtbdjcgjdmhgnmaaGreat

namespace Go.Proofs.YtbdjcgjdmhgnmaaGreat
open Go Go.RowKit
set_option maxRecDepth 100000
set_option maxHeartbeats 8000000
set_option linter.unusedSimpArgs false
set_option linter.unusedVariables false
theorem nextX_fn (p : Prob) (rs : List Int) (c : CtlD) (k tk rd rp vr tb : Int) (pa : Bool) (h : CtlK p c) (hk : ¬ k = 1 ∧ ¬ k = 2 ∧ ¬ k = 3 ∧ ¬ k = 4 ∧ ¬ k = 5 ∧ ¬ k = 6 ∧ ¬ k = 7) : FnSound Tryz.prog 41 [.val true (probC p), .val false [.d (.sl 1 (dInts rs))], .val true (ctlC c), .val true [.d (.v (.int .i64 k)), .d (.v (.int .i64 tk)), .d (.v (.int .i64 rd)), .d (.v (.int .i64 rp)), .d (.v (.int .i64 vr)), .d (.v (.bool pa)), .d (.v (.int .i64 tb))]] [] { vals := [(true, ctlC (nextP p rs c ⟨k, tk, rd, rp, vr, pa, tb⟩).1), (false, [.d (.sl 10 (dActs (nextP p rs c ⟨k, tk, rd, rp, vr, pa, tb⟩).2))])] } := by
 have e : nextP p rs c ⟨k, tk, rd, rp, vr, pa, tb⟩ = (c, []) := by unfold nextP; simp [hk]
 rw [e]
 refine startW (tm := [(0, _), (1, _), (2, _), (3, _)]) Tryz.func41 rfl Tryz.ntmps41 rfl rfl rfl rfl ?_
 repeat' (first
  | refine wA ?_
  | (refine wC ?_ ?_ <;> intro hc)
  | refine wB ?_ ?_
  | (with_reducible refine JL.block ?_)
  | ((with_reducible refine F_at ?_); refine eW (vs := [(_, _), (_, _)]) Tryz.results41 ?_; (focus (repeat' (first | exact oA | refine oB ?_ | refine oC ?_ ?_ | fail))))
  | ((with_reducible refine FO_at ?_); refine eO (vs := [(_, _), (_, _)]) Tryz.results41 ?_)
  | exact oM
  | fail)
 all_goals first | rfl | (exfalso; omega) | trace_state
theorem next_fn (p : Prob) (rs : List Int) (c : CtlD) (s : SigD) (h : CtlK p c) (hs : setErr p rs = 0) (hl : c.plan.length ≤ 1000000) (hrd : -1000000000 ≤ c.round ∧ c.round ≤ 1000000000) (hrp : -1000000000 ≤ c.replica ∧ c.replica ≤ 1000000000) : FnSound Tryz.prog 41 [.val true (probC p), .val false [.d (.sl 1 (dInts rs))], .val true (ctlC c), .val true (sigC s)] [] { vals := [(true, ctlC (nextP p rs c s).1), (false, [.d (.sl 10 (dActs (nextP p rs c s).2))])] } := by
 obtain ⟨k, tk, rd, rp, vr, pa, tb⟩ := s
 by_cases k1 : k = 1
 ·subst k1; exact next1_fn p rs c tk rd rp vr tb pa h hs hl hrd hrp
 by_cases k2 : k = 2
 ·subst k2; exact next2_fn p rs c tk rd rp vr tb pa h hs hl hrd hrp
 by_cases k3 : k = 3
 ·subst k3; exact next3_fn p rs c tk rd rp vr tb pa h hs hl hrd hrp
 by_cases k4 : k = 4
 ·subst k4; exact next4_fn p rs c tk rd rp vr tb pa h hs hl hrd hrp
 by_cases k5 : k = 5
 ·subst k5; exact next5_fn p rs c tk rd rp vr tb pa h hs hl hrd hrp
 by_cases k6 : k = 6
 ·subst k6; exact next6_fn p rs c tk rd rp vr tb pa h hs hl hrd hrp
 by_cases k7 : k = 7
 ·subst k7; exact next7_fn p rs c tk rd rp vr tb pa h hs hl hrd hrp
 exact nextX_fn p rs c k tk rd rp vr tb pa h ⟨k1, k2, k3, k4, k5, k6, k7⟩
theorem u8_div {n : Int} (h : 0 ≤ n ∧ n < 256) : (0 ≤ n.tdiv 32 ∧ n.tdiv 32 ≤ 7) ∧ (0 ≤ n.tdiv 128 ∧ n.tdiv 128 ≤ 1) ∧ (0 ≤ n.tmod 16 ∧ n.tmod 16 < 16) ∧ (0 ≤ n.tmod 4 ∧ n.tmod 4 < 4) := by
 rw [Int.tdiv_eq_ediv_of_nonneg h.1, Int.tdiv_eq_ediv_of_nonneg h.1, Int.tmod_eq_emod_of_nonneg h.1, Int.tmod_eq_emod_of_nonneg h.1]
 omega
theorem useful0_fn (c : CtlD) (n : Int) (hn : 0 ≤ n ∧ n < 256) (ht : c.token = 0) : FnSound Tryz.prog 20 [.val true (ctlC c), .val false [.d (.v (.int .u8 n))]] [] { vals := [(true, sigC (usefulP c n))] } := by
 obtain ⟨d1, d2, d3, d4⟩ := u8_div hn
 have e : usefulP c n = ⟨1, 1 + n.tdiv 32, 0, 0, 0, false, 0⟩ := by unfold usefulP; rw [if_pos ht]; rfl
 rw [e]
 refine startW (tm := [(0, _), (1, _)]) Tryz.func20 rfl Tryz.ntmps20 rfl rfl rfl rfl ?_
 repeat' (first
  | refine wA ?_
  | (refine wC ?_ ?_ <;> intro hc)
  | refine wB ?_ ?_
  | (with_reducible refine JL.block ?_)
  | ((with_reducible refine F_at ?_); refine eW (vs := [(_, _)]) Tryz.results20 ?_; (focus (repeat' (first | exact oA | refine oB ?_ | refine oC ?_ ?_ | fail))))
  | ((with_reducible refine FO_at ?_); refine eO (vs := [(_, _)]) Tryz.results20 ?_)
  | exact oM
  | fail)
 all_goals first | rfl | (exfalso; omega) | (rw [wr_u8 (n := n.tdiv 32) ⟨by omega, by omega⟩, wrapI (n := n.tdiv 32) ⟨by omega, by omega⟩, wrapI (n := 1 + n.tdiv 32) ⟨by omega, by omega⟩]; done) | trace_state
theorem useful1_fn (p : Prob) (c : CtlD) (n : Int) (h : CtlK p c) (hl : c.plan.length ≤ 1000000) (hn : 0 ≤ n ∧ n < 256) (ht : ¬ c.token = 0) : FnSound Tryz.prog 20 [.val true (ctlC c), .val false [.d (.v (.int .u8 n))]] [] { vals := [(true, sigC (usefulP c n))] } := by
  obtain ⟨d1, d2, d3, d4⟩ := u8_div hn
  have hr := h.rng
  have hlt := h.lt
  have hbu := h.busy
  have hps := h.phs
  have hb1 : c.phase = 1 ∨ c.phase = 3 → 0 ≤ c.at_ ∧ c.at_ < c.plan.length ∧ 0 ≤ (c.plan.getD c.at_.toNat nilS).idx ∧ (c.plan.getD c.at_.toNat nilS).idx < c.mix.base.length ∧ (c.plan.getD c.at_.toNat nilS).idx < c.mix.next.length := fun a => by
    have := hbu (by omega); have := hlt (by omega); omega
  have e : usefulP c n = if n.tmod 16 = 12 then ⟨3, 0, 0, 0, 0, false, 0⟩ else if n.tmod 16 = 13 then ⟨2, 0, 0, 0, 0, false, 0⟩ else if n.tmod 16 = 14 then ⟨1, w64 (c.token + n.tdiv 128), 0, 0, 0, false, 0⟩
      else if c.phase = 1 ∨ c.phase = 3 then ⟨4, 0, (if n.tmod 16 = 15 then w64 (c.round - 1) else c.round), c.replica, wantedP c, false, 0⟩
      else if c.phase = 2 then ⟨5, 0, (if n.tmod 16 = 15 then w64 (c.round - 1) else c.round), 0, 0, !decide (n.tmod 4 = 3), 0⟩
      else if c.phase = 4 then ⟨6, 0, (if n.tmod 16 = 15 then w64 (c.round - 1) else c.round), 0, 0, false, (c.plan.getD c.at_.toNat nilS).idx⟩
      else if c.phase = 5 then ⟨7, 0, 0, 0, 0, false, 0⟩ else ⟨3, 0, 0, 0, 0, false, 0⟩ := by unfold usefulP; rw [if_neg ht]; rfl
  rw [e]
  clear hbu e h
  generalize hlate : (if n.tmod 16 = 15 then w64 (c.round - 1) else c.round) = late
  refine startW (tm := [(0, _), (1, _)]) Tryz.func20 rfl Tryz.ntmps20 rfl rfl rfl rfl ?_
  repeat' (first
    | ((with_reducible refine cond_at (t := 18) ?_); (refine JL.cutW 602 (fun tm => (5, .one false [.d (.v (.int .i64 (late)))]) :: tm) (fun bo => bo) ?_ ?_))
    | ((with_reducible refine AtJ.mk rfl ?_); (focus (apply SubW [] rfl ?_ ?_ rfl ?_; (repeat' (first | exact kA | refine kB ?_ | refine kC ?_ ?_ | exact kD | fail)))))
    | ((with_reducible refine K_ca 37 ?_); refine zC (wanted_fn c (by omega) (by omega)) ?_)
    | refine wA ?_
    | (refine wC ?_ ?_ <;> intro hc)
    | refine wB ?_ ?_
    | (with_reducible refine JL.block ?_)
    | ((with_reducible refine F_at ?_); refine eW (vs := [(_, _)]) Tryz.results20 ?_; (focus (repeat' (first | exact oA | refine oB ?_ | refine oC ?_ ?_ | fail))))
    | ((with_reducible refine FO_at ?_); refine eO (vs := [(_, _)]) Tryz.results20 ?_)
    | exact oM
    | fail)
  all_goals first
    | (rw [← hlate, if_pos hc]; rfl)
    | (rw [← hlate, if_neg hc]; done)
    | (clear hlt hb1; (repeat' split) <;> first | rfl | (exfalso; omega) | (rw [wr_u8 (n := n.tdiv 128) ⟨by omega, by omega⟩, wrapI (n := n.tdiv 128) ⟨by omega, by omega⟩]; rfl) | (simp; done))
    | trace_state
end Go.Proofs.YtbdjcgjdmhgnmaaGreat

