/- Rules of runs and contracts of functions, for the claims of one seat. -/
import Derived.Test.YtngjhkgcfabciaaGreatQA23
namespace Go.Proofs.YtngjhkgcfabciaaGreat
open Go Go.RowKit
set_option linter.unusedSimpArgs false
set_option linter.unusedVariables false
theorem w64_is {n : Int} (h : -9223372036854775808 ≤ n ∧ n ≤ 9223372036854775807) : w64 n = n := by
 unfold w64
 exact wrap_i64 ⟨by omega, by omega⟩
theorem CtlK.token {p : Prob} {c : CtlD} (h : CtlK p c) (t : Int) : CtlK p { c with token := t } := ⟨h.plan, h.rng, h.fin, h.ph0, h.ph1, h.ph2, h.ph4, h.ph5, h.ph6, h.phs⟩
theorem CtlK.replica {p : Prob} {c : CtlD} (h : CtlK p c) (r : Int) : CtlK p { c with replica := r } := ⟨h.plan, h.rng, h.fin, h.ph0, h.ph1, h.ph2, h.ph4, h.ph5, h.ph6, h.phs⟩
theorem CtlK.round {p : Prob} {c : CtlD} (h : CtlK p c) (r : Int) : CtlK p { c with round := r } := ⟨h.plan, h.rng, h.fin, h.ph0, h.ph1, h.ph2, h.ph4, h.ph5, h.ph6, h.phs⟩
theorem ctlK_mk {p : Prob} {c : CtlD} (hp : PlanOK p c.plan) (hr : 0 ≤ c.at_ ∧ c.at_ < c.plan.length) (hm : (c.phase = 1 ∧ (present c).kind = 1 ∧ c.mix = (mixesP p c.plan).getD (c.at_ + 1).toNat nilM) ∨ (c.phase = 1 ∧ (present c).kind = 2 ∧ c.mix = (mixesP p c.plan).getD c.at_.toNat nilM) ∨ (c.phase = 2 ∧ (present c).kind = 1 ∧ c.mix = (mixesP p c.plan).getD (c.at_ + 1).toNat nilM) ∨ (c.phase = 3 ∧ (present c).kind = 1 ∧ c.mix = (mixesP p c.plan).getD (c.at_ + 1).toNat nilM) ∨ (c.phase = 4 ∧ (present c).kind = 3 ∧ c.mix = (mixesP p c.plan).getD c.at_.toNat nilM) ∨ (c.phase = 5 ∧ (present c).kind = 1 ∧ c.mix = abortedP p c.plan c.at_)) : CtlK p c := by
 have h6 : ¬ c.at_ = c.plan.length := by omega
 rcases hm with ⟨e, k, m⟩ | ⟨e, k, m⟩ | ⟨e, k, m⟩ | ⟨e, k, m⟩ | ⟨e, k, m⟩ | ⟨e, k, m⟩
 ·exact ⟨hp, by omega, by omega, fun a => by omega, fun _ => .inl ⟨k, m⟩, fun a => by omega, fun a => by omega, fun a => by omega, fun a => by omega, by omega⟩
 ·exact ⟨hp, by omega, by omega, fun a => by omega, fun _ => .inr ⟨k, m⟩, fun a => by omega, fun a => by omega, fun a => by omega, fun a => by omega, by omega⟩
 ·exact ⟨hp, by omega, by omega, fun a => by omega, fun a => by omega, fun _ => ⟨k, m⟩, fun a => by omega, fun a => by omega, fun a => by omega, by omega⟩
 ·exact ⟨hp, by omega, by omega, fun a => by omega, fun a => by omega, fun _ => ⟨k, m⟩, fun a => by omega, fun a => by omega, fun a => by omega, by omega⟩
 ·exact ⟨hp, by omega, by omega, fun a => by omega, fun a => by omega, fun a => by omega, fun _ => ⟨k, m⟩, fun a => by omega, fun a => by omega, by omega⟩
 ·exact ⟨hp, by omega, by omega, fun a => by omega, fun a => by omega, fun a => by omega, fun a => by omega, fun _ => ⟨k, m⟩, fun a => by omega, by omega⟩
theorem CtlK.after1 {p : Prob} {c : CtlD} (h : CtlK p c) (h0 : c.phase = 0) (hk : (present c).kind = 1) : afterP p c.mix (present c) = some ((mixesP p c.plan).getD (c.at_ + 1).toNat nilM) := by
 have hlt := h.lt (by omega)
 have hr := h.rng
 have e : (c.at_ + 1).toNat = c.at_.toNat + 1 := by omega
 rcases h.ph0 h0 with m | ⟨_, m⟩
 ·rw [m, e]; exact h.plan.after (by omega)
 ·rw [m]; exact (h.plan.abort ⟨hr.1, hlt⟩ hk).2.1
theorem CtlK.mix0 {p : Prob} {c : CtlD} (h : CtlK p c) (h0 : c.phase = 0) (hk : ¬ (present c).kind = 1) : c.mix = (mixesP p c.plan).getD c.at_.toNat nilM := by
 rcases h.ph0 h0 with m | ⟨k, _⟩
 ·exact m
 ·exact absurd k hk
theorem CtlK.begin {p : Prob} {rs : List Int} {c : CtlD} (h : CtlK p c) (h0 : c.phase = 0) : CtlK p (beginC p rs c) := by
 have hlt := h.lt (by omega)
 have hr := h.rng
 have hs := h.st (by omega)
 have epr : present (beginC p rs c) = present c := rfl
 refine ctlK_mk h.plan ⟨hr.1, hlt⟩ ?_
 rw [epr]
 show ((if (present c).kind = 3 then (4 : Int) else 1) = 1 ∧ _ ∧ (if (present c).kind = 1 then afterM p c.mix (present c) else c.mix) = _) ∨ _
 by_cases k1 : (present c).kind = 1
 ·left
  refine ⟨by rw [if_neg (by omega)], k1, ?_⟩
  rw [if_pos k1]
  unfold afterM
  rw [h.after1 h0 k1]; rfl
 ·by_cases k2 : (present c).kind = 2
  ·right; left
   refine ⟨?_, k2, ?_⟩
   ·show (if (present c).kind = 3 then (4 : Int) else 1) = 1
    rw [if_neg (by omega)]
   ·show (if (present c).kind = 1 then afterM p c.mix (present c) else c.mix) = _
    rw [if_neg k1]; exact h.mix0 h0 k1
  ·have k3 : (present c).kind = 3 := by omega
   right; right; right; right; left
   refine ⟨?_, k3, ?_⟩
   ·show (if (present c).kind = 3 then (4 : Int) else 1) = 4
    rw [if_pos k3]
   ·show (if (present c).kind = 1 then afterM p c.mix (present c) else c.mix) = _
    rw [if_neg k1]; exact h.mix0 h0 k1
theorem CtlK.next_ {p : Prob} {c d : CtlD} (h : CtlK p c) (hd : (c.phase = 1 ∧ (present c).kind = 2) ∨ c.phase = 2 ∨ c.phase = 4 ∨ (c.phase = 1 ∧ (present c).kind = 1)) (e1 : d.plan = c.plan) (e2 : d.at_ = c.at_ + 1) (e3 : d.phase = if c.at_ + 1 = c.plan.length then 6 else 0) (e4 : d.mix = if ¬ (present c).kind = 1 then afterM p c.mix (present c) else c.mix) : CtlK p d := by
 have hlt := h.lt (by omega)
 have hr := h.rng
 have hm : d.mix = (mixesP p d.plan).getD d.at_.toNat nilM := by
  rw [e4, e1, e2]
  have e : (c.at_ + 1).toNat = c.at_.toNat + 1 := by omega
  have kp : (present c).kind = 1 → c.mix = (mixesP p c.plan).getD (c.at_ + 1).toNat nilM := fun k => by
   rcases hd with ⟨a, b⟩ | a | a | ⟨a, b⟩
   ·omega
   ·exact (h.ph2 (.inl a)).2
   ·have := (h.ph4 a).1; omega
   ·rcases h.ph1 a with ⟨_, m⟩ | ⟨k', _⟩
    ·exact m
    ·omega
  by_cases k1 : (present c).kind = 1
  ·rw [if_neg (fun a => a k1)]; exact kp k1
  ·rw [if_pos k1]
   have m : c.mix = (mixesP p c.plan).getD c.at_.toNat nilM := by
    rcases hd with ⟨a, b⟩ | a | a | ⟨a, b⟩
    ·rcases h.ph1 a with ⟨k', _⟩ | ⟨_, m⟩
     ·omega
     ·exact m
    ·exact absurd (h.ph2 (.inl a)).1 k1
    ·exact (h.ph4 a).2
    ·omega
   unfold afterM
   rw [m, e]
   have := h.plan.after (k := c.at_.toNat) (by omega)
   unfold present
   rw [this]; rfl
 refine ⟨by rw [e1]; exact h.plan, by rw [e1, e2]; omega, ?_, fun _ => .inl hm, fun a => ?_, fun a => ?_, fun a => ?_, fun a => ?_, fun _ => hm, ?_⟩
 ·rw [e3, e2, e1]; split <;> omega
 all_goals (rw [e3] at *; split at * <;> omega)
theorem CtlK.done {p : Prob} {c : CtlD} (h : CtlK p c) (hl : c.plan.length ≤ 1000000) (hd : (c.phase = 1 ∧ (present c).kind = 2) ∨ c.phase = 2 ∨ c.phase = 4) : CtlK p (doneC p c) := by
 have hlt := h.lt (by omega)
 have hr := h.rng
 have e : w64 (c.at_ + 1) = c.at_ + 1 := w64_is (by omega)
 exact h.next_ (d := doneC p c) (by omega) rfl e (by show (if w64 (c.at_ + 1) = _ then _ else _) = _; rw [e]) rfl
end Go.Proofs.YtngjhkgcfabciaaGreat

