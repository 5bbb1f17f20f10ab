/- Rules of runs and contracts of functions, for the claims of one seat. -/
import Derived.Test.YtngjhkgcfabciaaGreatQA27
namespace Go.Proofs.YtngjhkgcfabciaaGreat
open Go Go.RowKit
set_option linter.unusedSimpArgs false
set_option linter.unusedVariables false
structure CtlR (p : Prob) (rs : List Int) (c : CtlD) : Prop where
 rest : ∃ q : Int, 0 ≤ q ∧ c.round = 2 * c.at_ + extraP c.phase + 3 * q ∧ (c.phase = 0 → c.mix = (mixesP p c.plan).getD c.at_.toNat nilM ∨ 1 ≤ q)
 idle : ¬ (c.phase = 1 ∨ c.phase = 2 ∨ c.phase = 3) → c.replica = 0
 busy : c.phase = 1 ∨ c.phase = 2 ∨ c.phase = 3 → ¬ (present c).kind = 2 → c.replica = firstR rs (present c).idx
 some_ : c.phase = 1 → (present c).kind = 2 → firstR rs (present c).idx ≤ c.replica ∧ c.replica ≤ firstR rs (present c).idx + rs.getD (present c).idx.toNat 0 - 1
 tk : 0 ≤ c.token
theorem extra0 : extraP 0 = 0 := rfl
theorem extra1 : extraP 1 = 1 := rfl
theorem extra2 : extraP 2 = 1 := rfl
theorem extra3 : extraP 3 = 2 := rfl
theorem extra4 : extraP 4 = 1 := rfl
theorem extra5 : extraP 5 = 2 := rfl
theorem busy_is (ph : Int) : busyP ph = true ↔ (ph = 1 ∨ ph = 2 ∨ ph = 3) := by unfold busyP; exact decide_eq_true_iff
theorem expect_K {p : Prob} {c : CtlD} (h : CtlK p c) (hck : checkP p c.plan = true) : (c.phase = 0 → expectP p c.plan c.at_ c.phase = ((mixesP p c.plan).getD c.at_.toNat nilM, 0)) ∧ (¬ c.phase = 0 → expectP p c.plan c.at_ c.phase = (c.mix, 0)) := by
 have hr := h.rng
 have hv := h.plan.vp
 have e : expectP p c.plan c.at_ c.phase = if c.phase = 0 ∨ c.phase = 6 ∨ (c.phase = 1 ∧ kindP c.plan c.at_ = 2) ∨ (c.phase = 4 ∧ kindP c.plan c.at_ = 3) then ((mixesP p c.plan).getD c.at_.toNat nilM, 0)
     else if (c.phase = 1 ∨ c.phase = 2 ∨ c.phase = 3) ∧ kindP c.plan c.at_ = 1 then ((mixesP p c.plan).getD (c.at_ + 1).toNat nilM, 0)
     else if c.phase = 5 ∧ kindP c.plan c.at_ = 1 then (abortedP p c.plan c.at_, 0)
     else (nilM, 7) := by
  unfold expectP
  rw [if_neg (by simpa using hv), if_neg (by rw [hck]; decide), if_neg (by rintro (b | b | b); omega; omega; exact b h.fin)]
 have hki : ¬ c.phase = 6 → kindP c.plan c.at_ = (present c).kind := fun a => by unfold kindP; rw [if_pos (h.lt a)]; rfl
 refine ⟨fun a => by rw [e, if_pos (.inl a)], fun a => ?_⟩
 rw [e]
 have hps := h.phs
 have : c.phase = 1 ∨ c.phase = 2 ∨ c.phase = 3 ∨ c.phase = 4 ∨ c.phase = 5 ∨ c.phase = 6 := by omega
 rcases this with q | q | q | q | q | q
 ·have k0 := hki (by omega)
  rcases h.ph1 q with ⟨k, m⟩ | ⟨k, m⟩
  ·rw [if_neg (by omega), if_pos ⟨.inl q, by omega⟩, m]
  ·rw [if_pos (.inr (.inr (.inl ⟨q, by omega⟩))), m]
 ·have k0 := hki (by omega)
  have := h.ph2 (.inl q)
  rw [if_neg (by omega), if_pos ⟨.inr (.inl q), by omega⟩, this.2]
 ·have k0 := hki (by omega)
  have := h.ph2 (.inr q)
  rw [if_neg (by omega), if_pos ⟨.inr (.inr q), by omega⟩, this.2]
 ·have k0 := hki (by omega)
  have := h.ph4 q
  rw [if_pos (.inr (.inr (.inr ⟨q, by omega⟩))), this.2]
 ·have k0 := hki (by omega)
  have := h.ph5 q
  rw [if_neg (by omega), if_neg (by omega), if_pos ⟨q, by omega⟩, this.2]
 ·rw [if_pos (.inr (.inl q)), h.ph6 q]
theorem CtlR.valid {p : Prob} {rs : List Int} {c : CtlD} (hr : CtlR p rs c) (h : CtlK p c) (hck : checkP p c.plan = true) (hs : setErr p rs = 0) : validP p rs c = true := by
 obtain ⟨q, q1, q2, q3⟩ := hr.rest
 obtain ⟨e1, e2⟩ := expect_K h hck
 have hz : (expectP p c.plan c.at_ c.phase).2 = 0 := by
  by_cases h0 : c.phase = 0
  ·rw [e1 h0]
  ·rw [e2 h0]
 have hrest : restP c = 3 * q := by unfold restP; omega
 have hlh : lowP rs c ≤ c.replica ∧ c.replica ≤ highP rs c := by
  unfold highP lowP
  by_cases hb : c.phase = 1 ∨ c.phase = 2 ∨ c.phase = 3
  ·rw [if_pos ((busy_is _).2 hb)]
   by_cases k2 : (present c).kind = 2
   ·rw [if_pos ⟨(busy_is _).2 hb, k2⟩]
    rcases hb with q | q | q
    ·have := hr.some_ q k2; omega
    ·have := (h.ph2 (.inl q)).1; omega
    ·have := (h.ph2 (.inr q)).1; omega
   ·rw [if_neg (fun a => k2 a.2)]
    have := hr.busy hb k2
    omega
  ·rw [if_neg (fun a => hb ((busy_is _).1 a)), if_neg (fun a => hb ((busy_is _).1 a.1))]
   have := hr.idle hb
   omega
 unfold validP
 have htk := hr.tk
 rw [if_neg (by rintro (a | a); exact a hs; omega), if_neg (fun a => a hz), if_neg (by omega), if_neg (by rw [hrest, Int.mul_tmod_right]; omega)]
 by_cases h0 : c.phase = 0
 ·rw [e1 h0]
  by_cases hm : c.mix = (mixesP p c.plan).getD c.at_.toNat nilM
  ·rw [if_pos hm]
  ·rw [if_neg hm]
   have hq := (q3 h0).resolve_left hm
   obtain ⟨k, m⟩ := (h.ph0 h0).resolve_left hm
   have hlt := h.lt (by omega)
   exact decide_eq_true ⟨h0, by unfold kindP; rw [if_pos hlt]; exact k, by omega, m⟩
 ·rw [e2 h0, if_pos rfl]
theorem CtlR.token {p : Prob} {rs : List Int} {c : CtlD} (h : CtlR p rs c) {t : Int} (ht : 0 ≤ t) : CtlR p rs { c with token := t } := ⟨h.rest, h.idle, h.busy, h.some_, ht⟩
theorem CtlR.tick {p : Prob} {rs : List Int} {c : CtlD} (h : CtlR p rs c) (hk : CtlK p c) (hs : setErr p rs = 0) (hrd : -1000000000 ≤ c.round ∧ c.round ≤ 1000000000) : CtlR p rs (tickP p rs c).1 := by
 unfold tickP
 by_cases h0 : c.phase = 0
 ·rw [if_neg (fun a => a h0)]
  obtain ⟨q, q1, q2, q3⟩ := h.rest
  rw [h0, extra0] at q2
  have w : w64 (c.round + 1) = c.round + 1 := w64_is (by omega)
  have hi := h.idle (by omega)
  have hst := hk.st (by omega)
  have hso := setErr_ok hs
  have hix := hst.1.nn
  show CtlR p rs (beginC p rs c)
  by_cases k3 : (present c).kind = 3
  ·have e : beginC p rs c = ⟨c.plan, c.at_, 4, c.replica, c.round + 1, c.token, c.mix⟩ := by unfold beginC; rw [if_pos k3, if_pos k3, w, if_neg (by omega)]
   rw [e]
   exact ⟨⟨q, q1, by show c.round + 1 = 2 * c.at_ + extraP 4 + 3 * q; rw [extra4]; omega, fun a => absurd (show (4 : Int) = 0 from a) (by decide)⟩, fun _ => hi, fun a => absurd (show (4 : Int) = 1 ∨ (4 : Int) = 2 ∨ (4 : Int) = 3 from a) (by decide), fun a => absurd (show (4 : Int) = 1 from a) (by decide), h.tk⟩
  ·have e : beginC p rs c = ⟨c.plan, c.at_, 1, firstR rs (present c).idx, c.round + 1, c.token, if (present c).kind = 1 then afterM p c.mix (present c) else c.mix⟩ := by unfold beginC; rw [if_neg k3, if_neg k3, w]
   rw [e]
   have hsv := hst.1.svc k3
   have hrr := hso.2.2 (present c).idx.toNat (by have := hso.2.1; omega)
   refine ⟨⟨q, q1, by show c.round + 1 = 2 * c.at_ + extraP 1 + 3 * q; rw [extra1]; omega, fun a => absurd (show (1 : Int) = 0 from a) (by decide)⟩, fun a => absurd (.inl rfl) a, fun _ _ => rfl, fun _ _ => ?_, h.tk⟩
   show firstR rs (present c).idx ≤ firstR rs (present c).idx ∧ firstR rs (present c).idx ≤ firstR rs (present c).idx + rs.getD (present c).idx.toNat 0 - 1
   omega
 ·rw [if_pos h0]; exact h
theorem CtlR.done {p : Prob} {rs : List Int} {c : CtlD} (h : CtlR p rs c) (hk : CtlK p c) (hl : c.plan.length ≤ 1000000) (hrd : -1000000000 ≤ c.round ∧ c.round ≤ 1000000000) (hd : (c.phase = 1 ∧ (present c).kind = 2) ∨ c.phase = 2 ∨ c.phase = 4) : CtlR p rs (doneC p c) := by
 obtain ⟨q, q1, q2, q3⟩ := h.rest
 have hr := hk.rng
 have hlt := hk.lt (by omega)
 have hx : extraP c.phase = 1 := by
  rcases hd with ⟨a, _⟩ | a | a <;> rw [a] <;> rfl
 rw [hx] at q2
 have w : w64 (c.round + 1) = c.round + 1 := w64_is (by omega)
 have w1 : w64 (c.at_ + 1) = c.at_ + 1 := w64_is (by omega)
 have hkd := hk.done hl hd
 have e : doneC p c = ⟨c.plan, c.at_ + 1, if c.at_ + 1 = c.plan.length then 6 else 0, 0, c.round + 1, c.token, if ¬ (present c).kind = 1 then afterM p c.mix (present c) else c.mix⟩ := by unfold doneC; rw [w, w1]
 rw [e] at hkd ⊢
 have hx2 : extraP (if c.at_ + 1 = c.plan.length then 6 else 0) = 0 := by split <;> rfl
 refine ⟨⟨q, q1, by show c.round + 1 = 2 * (c.at_ + 1) + extraP (if c.at_ + 1 = c.plan.length then 6 else 0) + 3 * q; rw [hx2]; omega, fun a => .inl ?_⟩, fun _ => rfl, fun a => ?_, fun a => ?_, h.tk⟩
 ·-- the mix behind the step is the plan's
  have e2 : (c.at_ + 1).toNat = c.at_.toNat + 1 := by omega
  show (if ¬ (present c).kind = 1 then afterM p c.mix (present c) else c.mix) = (mixesP p c.plan).getD (c.at_ + 1).toNat nilM
  have haf := hk.plan.after (k := c.at_.toNat) (by omega)
  have aft : ¬ (present c).kind = 1 → c.mix = (mixesP p c.plan).getD c.at_.toNat nilM → afterM p c.mix (present c) = (mixesP p c.plan).getD (c.at_ + 1).toNat nilM := fun _ m => by
   unfold afterM present
   rw [m, haf, e2]; rfl
  rcases hd with ⟨a1, a2⟩ | a1 | a1
  ·rw [if_pos (by omega)]
   rcases hk.ph1 a1 with ⟨k, _⟩ | ⟨_, m⟩
   ·omega
   ·exact aft (by omega) m
  ·have := hk.ph2 (.inl a1)
   rw [if_neg (fun b => b this.1)]; exact this.2
  ·have := hk.ph4 a1
   rw [if_pos (by omega)]; exact aft (by omega) this.2
 ·have a : (if c.at_ + 1 = c.plan.length then (6 : Int) else 0) = 1 ∨ (if c.at_ + 1 = c.plan.length then (6 : Int) else 0) = 2 ∨ (if c.at_ + 1 = c.plan.length then (6 : Int) else 0) = 3 := a
  split at a <;> omega
 ·have a : (if c.at_ + 1 = c.plan.length then (6 : Int) else 0) = 1 := a
  split at a <;> omega
theorem CtlR.next {p : Prob} {rs : List Int} {c : CtlD} {s : SigD} (h : CtlR p rs c) (hk : CtlK p c) (hs : setErr p rs = 0) (hl : c.plan.length ≤ 1000000) (hrd : -1000000000 ≤ c.round ∧ c.round ≤ 1000000000) (hrp : -1000000000 ≤ c.replica ∧ c.replica ≤ 1000000000) (ht : 0 ≤ s.token) : CtlR p rs (nextP p rs c s).1 := by
 obtain ⟨q, q1, q2, q3⟩ := h.rest
 have w : w64 (c.round + 1) = c.round + 1 := w64_is (by omega)
 have wr : w64 (c.replica + 1) = c.replica + 1 := w64_is (by omega)
 have hps := hk.phs
 unfold nextP
 split
 ·split
  ·exact h
  ·exact (h.token ht).tick (hk.token _) hs hrd
 ·split
  ·exact h
  ·split
   ·exact h.token (by decide)
   ·split
    ·exact h.tick hk hs hrd
    ·split
     ·rename_i hc
      unfold ackP
      split
      ·exact h
      ·split
       ·rename_i h3
        rw [h3, extra3] at q2
        exact ⟨⟨q, q1, by show c.round = 2 * c.at_ + extraP 5 + 3 * q; rw [extra5]; omega, fun a => absurd (show (5 : Int) = 0 from a) (by decide)⟩, fun _ => rfl, fun a => absurd (show (5 : Int) = 1 ∨ (5 : Int) = 2 ∨ (5 : Int) = 3 from a) (by decide), fun a => absurd (show (5 : Int) = 1 from a) (by decide), h.tk⟩
       ·rename_i h3
        have h1 : c.phase = 1 := by omega
        rw [h1, extra1] at q2
        split
        ·rename_i k1
         have hb := h.busy (.inl h1) (by omega)
         exact ⟨⟨q, q1, by show c.round = 2 * c.at_ + extraP 2 + 3 * q; rw [extra2]; omega, fun a => absurd (show (2 : Int) = 0 from a) (by decide)⟩, fun a => absurd (.inr (.inl rfl)) a, fun _ _ => hb, fun a => absurd (show (2 : Int) = 1 from a) (by decide), h.tk⟩
        ·rename_i k1
         have k2 : (present c).kind = 2 := by
          rcases hk.ph1 h1 with ⟨k, _⟩ | ⟨k, _⟩
          ·exact absurd k k1
          ·exact k
         split
         ·exact h.done hk hl hrd (.inl ⟨h1, k2⟩)
         ·rename_i hne
          have hsm := h.some_ h1 k2
          refine ⟨⟨q, q1, by show c.round = 2 * c.at_ + extraP c.phase + 3 * q; rw [h1, extra1]; omega, q3⟩, fun a => absurd (.inl h1) a, fun _ b => absurd k2 b, fun _ _ => ?_, h.tk⟩
          show firstR rs (present c).idx ≤ w64 (c.replica + 1) ∧ w64 (c.replica + 1) ≤ firstR rs (present c).idx + rs.getD (present c).idx.toNat 0 - 1
          rw [wr]; omega
     ·split
      ·rename_i hc
       split
       ·exact h.done hk hl hrd (.inr (.inl hc.2.2))
       ·have h2 := hc.2.2
        rw [h2, extra2] at q2
        have hb := h.busy (.inr (.inl h2)) (by have := (hk.ph2 (.inl h2)).1; omega)
        exact ⟨⟨q, q1, by show w64 (c.round + 1) = 2 * c.at_ + extraP 3 + 3 * q; rw [extra3, w]; omega, fun a => absurd (show (3 : Int) = 0 from a) (by decide)⟩, fun a => absurd (.inr (.inr rfl)) a, fun _ _ => hb, fun a => absurd (show (3 : Int) = 1 from a) (by decide), h.tk⟩
      ·split
       ·rename_i hc; exact h.done hk hl hrd (.inr (.inr hc.2.2.1))
       ·split
        ·rename_i hc
         have h5 := hc.2
         rw [h5, extra5] at q2
         have hi := h.idle (by omega)
         exact ⟨⟨q + 1, by omega, by show w64 (c.round + 1) = 2 * c.at_ + extraP 0 + 3 * (q + 1); rw [extra0, w]; omega, fun _ => .inr (by omega)⟩, fun _ => hi, fun a => absurd (show (0 : Int) = 1 ∨ (0 : Int) = 2 ∨ (0 : Int) = 3 from a) (by decide), fun a => absurd (show (0 : Int) = 1 from a) (by decide), h.tk⟩
        ·exact h
theorem newP_r {p : Prob} {rs : List Int} {l : List StepD} (hs : setErr p rs = 0) (hc : checkP p l = true) : CtlR p rs (newP p rs l).1 := by
 have hv := (setErr_ok hs).1
 have hp := planOK_of hv (start_err hv) hc
 have e : newP p rs l = (⟨l, 0, if l.length = 0 then 6 else 0, 0, 0, 0, startM p⟩, 0) := by unfold newP; rw [if_neg (by simpa using hs), hc, if_neg (by decide)]
 have hm : startM p = (mixesP p l).getD 0 nilM := by rw [hp.mix, tr_0]
 rw [e]
 have hx2 : extraP (if l.length = 0 then 6 else 0) = 0 := by split <;> rfl
 refine ⟨⟨0, by decide, by show (0 : Int) = 2 * 0 + extraP (if l.length = 0 then 6 else 0) + 3 * 0; rw [hx2]; rfl, fun _ => .inl hm⟩, fun _ => rfl, fun a => ?_, fun a => ?_, by show (0 : Int) ≤ 0; decide⟩
 ·have a : (if l.length = 0 then (6 : Int) else 0) = 1 ∨ (if l.length = 0 then (6 : Int) else 0) = 2 ∨ (if l.length = 0 then (6 : Int) else 0) = 3 := a
  split at a <;> omega
 ·have a : (if l.length = 0 then (6 : Int) else 0) = 1 := a
  split at a <;> omega
end Go.Proofs.YtngjhkgcfabciaaGreat

