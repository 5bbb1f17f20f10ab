/- Rules of runs and contracts of functions, for the claims of one seat. -/
import Derived.Test.YtngjhkgcfabciaaGreatQA11
import Derived.Test.YtngjhkgcfabciaaGreatQA15
import Derived.Test.YtngjhkgcfabciaaGreatQA24
import Derived.Test.YtngjhkgcfabciaaGreatQA25
namespace Go.Proofs.YtngjhkgcfabciaaGreat
open Go Go.RowKit
set_option maxRecDepth 100000
set_option maxHeartbeats 8000000
set_option linter.unusedSimpArgs false
set_option linter.unusedVariables false
theorem next4_fn (p : Prob) (rs : List Int) (c : CtlD) (tk rd rp vr tb : Int) (pa : Bool) (h : CtlK p c) (hs : setErr p rs = 0) (hl : c.plan.length ≤ 1000000) (hrd : -1000000000 ≤ c.round ∧ c.round ≤ 1000000000) (hrp : -1000000000 ≤ c.replica ∧ c.replica ≤ 1000000000) : FnSound Tryz.prog 25 [.val true (probC p), .val false [.d (.sl 1 (dInts rs))], .val true (ctlC c), .val true [.d (.v (.int .i64 4)), .d (.v (.int .i64 tk)), .d (.v (.int .i64 rd)), .d (.v (.int .i64 rp)), .d (.v (.int .i64 vr)), .d (.v (.bool pa)), .d (.v (.int .i64 tb))]] [] { vals := [(true, ctlC (nextP p rs c ⟨4, tk, rd, rp, vr, pa, tb⟩).1), (false, [.d (.sl 10 (dActs (nextP p rs c ⟨4, tk, rd, rp, vr, pa, tb⟩).2))])] } := by
 have e : nextP p rs c ⟨4, tk, rd, rp, vr, pa, tb⟩ = if c.token = 0 then (c, []) else if rd = c.round ∧ (c.phase = 1 ∨ c.phase = 3) then (if ¬ rp = c.replica ∨ ¬ vr = wantedP c then (c, [])
     else if c.phase = 3 then (⟨c.plan, c.at_, 5, 0, c.round, c.token, abortedP p c.plan c.at_⟩, [])
     else if (c.plan.getD c.at_.toNat nilS).kind = 1 then (⟨c.plan, c.at_, 2, c.replica, c.round, c.token, c.mix⟩, repeatP ⟨c.plan, c.at_, 2, c.replica, c.round, c.token, c.mix⟩)
     else if c.replica = firstR rs (c.plan.getD c.at_.toNat nilS).idx + rs.getD (c.plan.getD c.at_.toNat nilS).idx.toNat 0 - 1 then (doneC p c, [entA c 2])
     else (⟨c.plan, c.at_, c.phase, c.replica + 1, c.round, c.token, c.mix⟩, repeatP ⟨c.plan, c.at_, c.phase, c.replica + 1, c.round, c.token, c.mix⟩)) else (c, []) := by
  have w3 : w64 (c.replica + 1) = c.replica + 1 := w64_is (by omega)
  unfold nextP ackP
  simp only [show ¬ (4 : Int) = 1 by decide, show ¬ (4 : Int) = 2 by decide, show ¬ (4 : Int) = 3 by decide, show ¬ (4 : Int) = 5 by decide, show ¬ (4 : Int) = 6 by decide, show ¬ (4 : Int) = 7 by decide, if_false, false_and, true_and, present, w3]
 rw [e]
 have hlt := h.lt
 have hr := h.rng
 have hso := setErr_ok hs
 have hvp := vp_all hso.1
 have hrl := hso.2.1
 have hbu := h.busy
 have hfr := fun hi => first_fn rs (c.plan.getD c.at_.toNat nilS).idx hi hso.2.2 (by omega)
 have hrr := hso.2.2 (c.plan.getD c.at_.toNat nilS).idx.toNat
 have hsl := sum_le hso.2.2 (c.plan.getD c.at_.toNat nilS).idx.toNat
 have efr : firstR rs (c.plan.getD c.at_.toNat nilS).idx = (rs.take (c.plan.getD c.at_.toNat nilS).idx.toNat).sum := rfl
 have w3 : w64 (c.replica + 1) = c.replica + 1 := w64_is (by omega)
 have hb1 : c.phase = 1 → 0 ≤ c.at_ ∧ c.at_ < c.plan.length ∧ 0 ≤ (c.plan.getD c.at_.toNat nilS).idx ∧ (c.plan.getD c.at_.toNat nilS).idx < rs.length ∧ (c.plan.getD c.at_.toNat nilS).idx < c.mix.base.length ∧ (c.plan.getD c.at_.toNat nilS).idx < c.mix.next.length := fun a => by
  have := hbu (.inl a); have := hlt (by omega); omega
 have hb3 : c.phase = 3 → 0 ≤ c.at_ ∧ c.at_ < c.plan.length ∧ 0 ≤ (c.plan.getD c.at_.toNat nilS).idx ∧ (c.plan.getD c.at_.toNat nilS).idx < rs.length ∧ (c.plan.getD c.at_.toNat nilS).idx < c.mix.base.length ∧ (c.plan.getD c.at_.toNat nilS).idx < c.mix.next.length := fun a => by
  have := hbu (.inr (.inr a)); have := hlt (by omega); omega
 have hK2 : c.phase = 1 → (c.plan.getD c.at_.toNat nilS).kind = 1 → CtlK p ⟨c.plan, c.at_, 2, c.replica, c.round, c.token, c.mix⟩ := fun a k => ctlK_mk h.plan ⟨hr.1, hlt (by omega)⟩ (.inr (.inr (.inl ⟨rfl, k, by
  rcases h.ph1 a with ⟨_, m⟩ | ⟨k', _⟩
  ·exact m
  ·unfold present at k'; omega⟩)))
 have hk1 := h.ph1
 have hk3 : c.phase = 3 → (c.plan.getD c.at_.toNat nilS).kind = 1 := fun a => (h.ph2 (.inr a)).1
 have hrs6 : rs.length ≤ 6 := by omega
 clear hbu hvp e
 by_cases p1 : c.phase = 1
 ·have hb := hb1 p1
  have n3 : ¬ c.phase = 3 := by omega
  have hK2 := hK2 p1
  clear hb1 hb3 hk1 hk3
  refine startW (tm := [(0, _), (1, _), (2, _), (3, _)]) Tryz.func25 rfl Tryz.ntmps25 rfl rfl rfl rfl ?_
  repeat' (first
 |(with_reducible refine K_ca 26 ?_); refine zC (wanted_fn c ⟨hb.1, hb.2.1⟩ ⟨hb.2.2.1, hb.2.2.2.2⟩) ?_
 |(with_reducible refine K_ca 50 ?_); (first
 |refine zC (repeated_fn p ⟨c.plan, c.at_, 2, c.replica, c.round, c.token, c.mix⟩ (hK2 (by assumption)) hl) ?_
 |refine zC (repeated_fn p ⟨c.plan, c.at_, c.phase, c.replica + 1, c.round, c.token, c.mix⟩ (h.replica _) hl) ?_)
 |(with_reducible refine K_ca 51 ?_); refine zC (hfr (by omega)) ?_
 |(with_reducible refine K_ca 52 ?_); refine zC (done_fn p c h hl (by omega) hrd) ?_
 |refine wA ?_
 |(refine wC ?_ ?_ <;> intro hc)
 |refine wB ?_ ?_
 |(with_reducible refine JL.block ?_)
 |(with_reducible refine F_at ?_); refine eW (vs := [(_, _), (_, _)]) Tryz.results25 ?_; (focus (repeat' (first | exact oA | refine oB ?_ | refine oC ?_ ?_ | fail)))
 |exact oM
 |fail)
  all_goals (clear h hs hrp hrd hr hlt hso hfr hrr hsl; first | rfl | ((repeat' split) <;> first | rfl | (exfalso; omega) | (exfalso; grind)) | trace_state)
 ·by_cases p3 : c.phase = 3
  ·have hb := hb3 p3
   have hk3 := hk3 p3
   clear hb1 hb3 hk1 hK2
   refine startW (tm := [(0, _), (1, _), (2, _), (3, _)]) Tryz.func25 rfl Tryz.ntmps25 rfl rfl rfl rfl ?_
   repeat' (first
 |(with_reducible refine K_ca 26 ?_); refine zC (wanted_fn c ⟨hb.1, hb.2.1⟩ ⟨hb.2.2.1, hb.2.2.2.2⟩) ?_
 |(with_reducible refine K_ca 49 ?_); refine zC (aborted_fn p c.plan c.at_ h.plan hl ⟨hb.1, hb.2.1⟩ hk3) ?_
 |refine wA ?_
 |(refine wC ?_ ?_ <;> intro hc)
 |refine wB ?_ ?_
 |(with_reducible refine JL.block ?_)
 |(with_reducible refine F_at ?_); refine eW (vs := [(_, _), (_, _)]) Tryz.results25 ?_; (focus (repeat' (first | exact oA | refine oB ?_ | refine oC ?_ ?_ | fail)))
 |exact oM
 |fail)
   all_goals (clear h hs hrp hrd hr hlt hso hfr hrr hsl; first | rfl | ((repeat' split) <;> first | rfl | (exfalso; omega) | (exfalso; grind)) | trace_state)
  ·refine startW (tm := [(0, _), (1, _), (2, _), (3, _)]) Tryz.func25 rfl Tryz.ntmps25 rfl rfl rfl rfl ?_
   repeat' (first
 |refine wA ?_
 |(refine wC ?_ ?_ <;> intro hc)
 |refine wB ?_ ?_
 |(with_reducible refine JL.block ?_)
 |(with_reducible refine F_at ?_); refine eW (vs := [(_, _), (_, _)]) Tryz.results25 ?_; (focus (repeat' (first | exact oA | refine oB ?_ | refine oC ?_ ?_ | fail)))
 |exact oM
 |fail)
   all_goals (clear h hs hrp hrd hr hlt hso hfr hrr hsl; first | rfl | ((repeat' split) <;> first | rfl | (exfalso; omega) | (exfalso; grind)) | trace_state)
end Go.Proofs.YtngjhkgcfabciaaGreat

namespace Go.Proofs.YtngjhkgcfabciaaGreat
open Go Go.RowKit
set_option linter.unusedSimpArgs false
set_option linter.unusedVariables false
def beginR (p : Prob) (rs : List Int) (c : CtlD) : CtlD :=
 if (present c).kind = 3 then { c with phase := 4 }
 else { c with phase := 1, replica := firstR rs (present c).idx, mix := if (present c).kind = 1 then afterM p c.mix (present c) else c.mix }
def doneR (p : Prob) (c : CtlD) : CtlD :=
 { plan := c.plan, at_ := w64 (c.at_ + 1), phase := if w64 (c.at_ + 1) = c.plan.length then 6 else 0, replica := 0, round := c.round, token := c.token, mix := if ¬ (present c).kind = 1 then afterM p c.mix (present c) else c.mix }
def oneP (p : Prob) (rs : List Int) (c : CtlD) (x : EntD) : Option CtlD :=
 if x.kind = 5 then some c
 else if ¬ x.idx = c.at_ then none
 else if x.kind = 1 ∧ c.phase = 0 then some (beginR p rs (bump c))
 else if x.kind = 2 ∧ (c.phase = 1 ∨ c.phase = 4) then some (doneR p (bump c))
 else if x.kind = 3 ∧ c.phase = 1 ∧ (present c).kind = 1 then some { bump c with phase := 3 }
 else if x.kind = 4 ∧ c.phase = 3 then some { bump c with phase := 0, replica := 0, mix := abortM p c.mix (present c).idx }
 else none
def replayL (p : Prob) (rs : List Int) : CtlD → List EntD → CtlD × Int
 | c, [] => (c, 0)
 | c, x :: r => match oneP p rs c x with
  | none => (nilCtl, 1)
  | some c' => replayL p rs c' r
def replayP (p : Prob) (rs : List Int) (l : List StepD) (es : List EntD) : CtlD × Int :=
 if ¬ (newP p rs l).2 = 0 then (nilCtl, (newP p rs l).2) else replayL p rs (newP p rs l).1 es
end Go.Proofs.YtngjhkgcfabciaaGreat

namespace Go.Proofs.YtngjhkgcfabciaaGreat
open Go Go.RowKit
set_option linter.unusedSimpArgs false
set_option linter.unusedVariables false
theorem CtlK.beginR {p : Prob} {rs : List Int} {c : CtlD} (h : CtlK p c) (h0 : c.phase = 0) : CtlK p (beginR p rs c) := by
 have hlt := h.lt (by omega)
 have hr := h.rng
 have hs := h.st (by omega)
 unfold Go.Proofs.YtngjhkgcfabciaaGreat.beginR
 by_cases k3 : (present c).kind = 3
 ·rw [if_pos k3]
  exact ctlK_mk h.plan ⟨hr.1, hlt⟩ (.inr (.inr (.inr (.inr (.inl ⟨rfl, k3, h.mix0 h0 (by omega)⟩)))))
 ·rw [if_neg k3]
  by_cases k1 : (present c).kind = 1
  ·refine ctlK_mk h.plan ⟨hr.1, hlt⟩ (.inl ⟨rfl, k1, ?_⟩)
   show (if (present c).kind = 1 then afterM p c.mix (present c) else c.mix) = _
   rw [if_pos k1]
   unfold afterM
   rw [h.after1 h0 k1]; rfl
  ·refine ctlK_mk h.plan ⟨hr.1, hlt⟩ (.inr (.inl ⟨rfl, (show (present c).kind = 2 by omega), ?_⟩))
   show (if (present c).kind = 1 then afterM p c.mix (present c) else c.mix) = _
   rw [if_neg k1]; exact h.mix0 h0 k1
theorem CtlK.doneR {p : Prob} {c : CtlD} (h : CtlK p c) (hl : c.plan.length ≤ 1000000) (hd : c.phase = 1 ∨ c.phase = 4) : CtlK p (doneR p c) := by
 have hlt := h.lt (by omega)
 have hr := h.rng
 have hs := h.ph1
 have e : w64 (c.at_ + 1) = c.at_ + 1 := w64_is (by omega)
 exact h.next_ (d := Go.Proofs.YtngjhkgcfabciaaGreat.doneR p c) (by grind) rfl e (by show (if w64 (c.at_ + 1) = _ then _ else _) = _; rw [e]) rfl
theorem CtlK.bump {p : Prob} {c : CtlD} (h : CtlK p c) : CtlK p (bump c) := h.round _
theorem CtlK.abortE {p : Prob} {c : CtlD} (h : CtlK p c) (h3 : c.phase = 3) : abortM p c.mix (present c).idx = abortedP p c.plan c.at_ := by
 have := h.ph2 (.inr h3)
 rw [this.2]; rfl
theorem CtlK.resume {p : Prob} {c : CtlD} (h : CtlK p c) (h3 : c.phase = 3) (r : Int) : CtlK p { c with phase := 0, replica := r, mix := abortM p c.mix (present c).idx } := by
 have hlt := h.lt (by omega)
 have hr := h.rng
 have hk := h.ph2 (.inr h3)
 exact ⟨h.plan, h.rng, by show (0 : Int) = 6 ↔ c.at_ = c.plan.length; omega, fun _ => .inr ⟨hk.1, h.abortE h3⟩, fun a => absurd (show (0 : Int) = 1 from a) (by decide), fun a => absurd (show (0 : Int) = 2 ∨ (0 : Int) = 3 from a) (by decide), fun a => absurd (show (0 : Int) = 4 from a) (by decide), fun a => absurd (show (0 : Int) = 5 from a) (by decide), fun a => absurd (show (0 : Int) = 6 from a) (by decide), by show (0 : Int) ≤ 0 ∧ (0 : Int) ≤ 6; decide⟩
theorem CtlK.undo {p : Prob} {c : CtlD} (h : CtlK p c) (h1 : c.phase = 1) (hk : (present c).kind = 1) : CtlK p { c with phase := 3 } := by
 have hlt := h.lt (by omega)
 have hr := h.rng
 refine ctlK_mk h.plan ⟨hr.1, hlt⟩ (.inr (.inr (.inr (.inl ⟨rfl, hk, ?_⟩))))
 rcases h.ph1 h1 with ⟨_, m⟩ | ⟨k, _⟩
 ·exact m
 ·omega
theorem CtlK.one {p : Prob} {rs : List Int} {c d : CtlD} {x : EntD} (h : CtlK p c) (hl : c.plan.length ≤ 1000000) (e : oneP p rs c x = some d) : CtlK p d ∧ d.plan = c.plan ∧ (d.round = c.round ∨ d.round = w64 (c.round + 1)) := by
 unfold oneP at e
 split at e
 ·cases e; exact ⟨h, rfl, .inl rfl⟩
 ·split at e
  ·cases e
  ·split at e
   ·rename_i hc
    cases e
    refine ⟨h.bump.beginR hc.2, ?_, ?_⟩
    ·unfold Go.Proofs.YtngjhkgcfabciaaGreat.beginR; split <;> rfl
    ·unfold Go.Proofs.YtngjhkgcfabciaaGreat.beginR; split <;> exact .inr rfl
   ·split at e
    ·rename_i hc
     cases e
     exact ⟨h.bump.doneR hl hc.2, rfl, .inr rfl⟩
    ·split at e
     ·rename_i hc
      cases e
      exact ⟨h.bump.undo hc.2.1 hc.2.2, rfl, .inr rfl⟩
     ·split at e
      ·rename_i hc
       cases e
       exact ⟨h.bump.resume hc.2 0, rfl, .inr rfl⟩
      ·cases e
theorem newP_k {p : Prob} {rs : List Int} {l : List StepD} (hs : setErr p rs = 0) (hc : checkP p l = true) : CtlK p (newP p rs l).1 ∧ (newP p rs l).1.plan = l ∧ (newP p rs l).1.round = 0 ∧ (newP p rs l).2 = 0 := by
 have hv := (setErr_ok hs).1
 have hp := planOK_of hv (start_err hv) hc
 have e : newP p rs l = (⟨l, 0, if l.length = 0 then 6 else 0, 0, 0, 0, startM p⟩, 0) := by unfold newP; rw [if_neg (by simpa using hs), hc, if_neg (by decide)]
 have hm : startM p = (mixesP p l).getD 0 nilM := by rw [hp.mix, tr_0]
 rw [e]
 refine ⟨⟨hp, by show (0 : Int) ≤ 0 ∧ (0 : Int) ≤ l.length; omega, ?_, fun _ => .inl hm, fun a => ?_, fun a => ?_, fun a => ?_, fun a => ?_, fun _ => hm, ?_⟩, rfl, rfl, rfl⟩
 ·show (if l.length = 0 then (6 : Int) else 0) = 6 ↔ (0 : Int) = l.length
  split <;> omega
 ·have a : (if l.length = 0 then (6 : Int) else 0) = 1 := a
  split at a <;> omega
 ·have a : (if l.length = 0 then (6 : Int) else 0) = 2 ∨ (if l.length = 0 then (6 : Int) else 0) = 3 := a
  split at a <;> omega
 ·have a : (if l.length = 0 then (6 : Int) else 0) = 4 := a
  split at a <;> omega
 ·have a : (if l.length = 0 then (6 : Int) else 0) = 5 := a
  split at a <;> omega
 ·show (0 : Int) ≤ (if l.length = 0 then 6 else 0) ∧ (if l.length = 0 then (6 : Int) else 0) ≤ 6
  split <;> omega
def oneD (p : Prob) (rs : List Int) (c : CtlD) (x : EntD) : CtlD := (oneP p rs c x).getD (if ¬ x.idx = c.at_ then c else bump c)
end Go.Proofs.YtngjhkgcfabciaaGreat

namespace Go.Proofs.YtngjhkgcfabciaaGreat
open Go Go.RowKit
set_option linter.unusedSimpArgs false
set_option linter.unusedVariables false
theorem CtlK.tick {p : Prob} {rs : List Int} {c : CtlD} (h : CtlK p c) : CtlK p (tickP p rs c).1 := by
 unfold tickP
 by_cases h0 : c.phase = 0
 ·rw [if_neg (fun a => a h0)]; exact h.begin h0
 ·rw [if_pos h0]; exact h
theorem CtlK.probe {p : Prob} {c : CtlD} (h : CtlK p c) (h1 : c.phase = 1) (hk : (present c).kind = 1) : CtlK p { c with phase := 2 } := by
 have hlt := h.lt (by omega)
 refine ctlK_mk h.plan ⟨h.rng.1, hlt⟩ (.inr (.inr (.inl ⟨rfl, hk, ?_⟩)))
 rcases h.ph1 h1 with ⟨_, m⟩ | ⟨k, _⟩
 ·exact m
 ·omega
theorem CtlK.failed {p : Prob} {c : CtlD} (h : CtlK p c) (h3 : c.phase = 3) (r : Int) : CtlK p { c with mix := abortedP p c.plan c.at_, phase := 5, replica := r } := by
 have hlt := h.lt (by omega)
 exact ctlK_mk h.plan ⟨h.rng.1, hlt⟩ (.inr (.inr (.inr (.inr (.inr ⟨rfl, (h.ph2 (.inr h3)).1, rfl⟩)))))
theorem CtlK.gateNo {p : Prob} {c : CtlD} (h : CtlK p c) (h2 : c.phase = 2) : CtlK p { c with phase := 3 } := by
 have hlt := h.lt (by omega)
 have := h.ph2 (.inl h2)
 exact ctlK_mk h.plan ⟨h.rng.1, hlt⟩ (.inr (.inr (.inr (.inl ⟨rfl, this.1, this.2⟩))))
theorem CtlK.again {p : Prob} {c : CtlD} (h : CtlK p c) (h5 : c.phase = 5) : CtlK p { c with phase := 0 } := by
 have hlt := h.lt (by omega)
 have hr := h.rng
 have hk := h.ph5 h5
 exact ⟨h.plan, h.rng, by show (0 : Int) = 6 ↔ c.at_ = c.plan.length; omega, fun _ => .inr ⟨hk.1, hk.2⟩, fun a => absurd (show (0 : Int) = 1 from a) (by decide), fun a => absurd (show (0 : Int) = 2 ∨ (0 : Int) = 3 from a) (by decide), fun a => absurd (show (0 : Int) = 4 from a) (by decide), fun a => absurd (show (0 : Int) = 5 from a) (by decide), fun a => absurd (show (0 : Int) = 6 from a) (by decide), by show (0 : Int) ≤ 0 ∧ (0 : Int) ≤ 6; decide⟩
theorem CtlK.next {p : Prob} {rs : List Int} {c : CtlD} {s : SigD} (h : CtlK p c) (hl : c.plan.length ≤ 1000000) : CtlK p (nextP p rs c s).1 := by
 have hps := h.phs
 unfold nextP
 split
 ·split
  ·exact h
  ·exact (h.token _).tick
 ·split
  ·exact h
  ·split
   ·exact h.token 0
   ·split
    ·exact h.tick
    ·split
     ·rename_i hc
      unfold ackP
      split
      ·exact h
      ·split
       ·rename_i h3; exact h.failed h3 0
       ·rename_i h3
        have h1 : c.phase = 1 := by omega
        split
        ·rename_i hk; exact h.probe h1 hk
        ·rename_i hk
         have hk2 : (present c).kind = 2 := by
          rcases h.ph1 h1 with ⟨k, _⟩ | ⟨k, _⟩
          ·exact absurd k hk
          ·exact k
         split
         ·exact h.done hl (.inl ⟨h1, hk2⟩)
         ·exact h.replica _
     ·split
      ·rename_i hc
       split
       ·exact h.done hl (.inr (.inl hc.2.2))
       ·exact (h.bump).gateNo hc.2.2
      ·split
       ·rename_i hc; exact h.done hl (.inr (.inr hc.2.2.1))
       ·split
        ·rename_i hc; exact (h.bump).again hc.2
        ·exact h
structure CtlB (c : CtlD) (l : List StepD) (k : Int) : Prop where
 plan : c.plan = l
 rd : 0 ≤ c.round ∧ c.round ≤ k
 rp : 0 ≤ c.replica ∧ c.replica ≤ 1000 + k
 tk : 0 ≤ c.token
theorem CtlB.mono {c : CtlD} {l : List StepD} {k j : Int} (h : CtlB c l k) (hj : k ≤ j) : CtlB c l j := ⟨h.plan, by have := h.rd; omega, by have := h.rp; omega, h.tk⟩
theorem firstR_rng {rs : List Int} (hr : ∀ k, k < rs.length → 1 ≤ rs.getD k 0 ∧ rs.getD k 0 ≤ 4) (hl : rs.length ≤ 100) (s : Int) : 0 ≤ firstR rs s ∧ firstR rs s ≤ 400 := by
 unfold firstR
 by_cases h : s.toNat ≤ rs.length
 ·have := sum_le hr s.toNat h; omega
 ·have := sum_le hr rs.length (Nat.le_refl _)
  rw [List.take_of_length_le (by omega)]
  rw [List.take_length] at this
  omega
theorem CtlB.tick {p : Prob} {rs : List Int} {c : CtlD} {l : List StepD} {k : Int} (h : CtlB c l k) (hk : k ≤ 100000000) (hr : ∀ k, k < rs.length → 1 ≤ rs.getD k 0 ∧ rs.getD k 0 ≤ 4) (hl : rs.length ≤ 100) : CtlB (tickP p rs c).1 l (k + 1) := by
 have h1 := h.rd; have h2 := h.rp
 unfold tickP
 split
 ·exact h.mono (by omega)
 ·have w : w64 (c.round + 1) = c.round + 1 := w64_is (by omega)
  have hf := firstR_rng hr hl (present c).idx
  refine ⟨h.plan, ?_, ?_, h.tk⟩
  ·show 0 ≤ w64 (c.round + 1) ∧ w64 (c.round + 1) ≤ k + 1
   rw [w]; omega
  ·show 0 ≤ (if (present c).kind = 3 then c.replica else firstR rs (present c).idx) ∧ (if (present c).kind = 3 then c.replica else firstR rs (present c).idx) ≤ 1000 + (k + 1)
   split <;> omega
theorem CtlB.next {p : Prob} {rs : List Int} {c : CtlD} {s : SigD} {l : List StepD} {k : Int} (h : CtlB c l k) (hk : k ≤ 100000000) (hr : ∀ k, k < rs.length → 1 ≤ rs.getD k 0 ∧ rs.getD k 0 ≤ 4) (hl : rs.length ≤ 100) (ht : 0 ≤ s.token) : CtlB (nextP p rs c s).1 l (k + 1) := by
 have h1 := h.rd; have h2 := h.rp; have h3 := h.tk
 have w : w64 (c.round + 1) = c.round + 1 := w64_is (by omega)
 have wr : w64 (c.replica + 1) = c.replica + 1 := w64_is (by omega)
 have hd : CtlB (doneC p c) l (k + 1) := ⟨h.plan, by show 0 ≤ w64 (c.round + 1) ∧ w64 (c.round + 1) ≤ k + 1; rw [w]; omega, by show (0 : Int) ≤ 0 ∧ (0 : Int) ≤ 1000 + (k + 1); omega, h.tk⟩
 have hb : ∀ ph, CtlB { bump c with phase := ph } l (k + 1) := fun ph => ⟨h.plan, by show 0 ≤ w64 (c.round + 1) ∧ w64 (c.round + 1) ≤ k + 1; rw [w]; omega, by show 0 ≤ c.replica ∧ c.replica ≤ 1000 + (k + 1); omega, h.tk⟩
 have hm := h.mono (j := k + 1) (by omega)
 unfold nextP
 split
 ·split
  ·exact hm
  ·exact CtlB.tick (c := { c with token := s.token }) ⟨h.plan, h.rd, h.rp, ht⟩ hk hr hl
 ·split
  ·exact hm
  ·split
   ·exact ⟨hm.plan, hm.rd, hm.rp, by show (0 : Int) ≤ 0; decide⟩
   ·split
    ·exact h.tick hk hr hl
    ·split
     ·unfold ackP
      split
      ·exact hm
      ·split
       ·exact ⟨hm.plan, hm.rd, by show (0 : Int) ≤ 0 ∧ (0 : Int) ≤ 1000 + (k + 1); omega, hm.tk⟩
       ·split
        ·exact ⟨hm.plan, hm.rd, hm.rp, hm.tk⟩
        ·split
         ·exact hd
         ·exact ⟨hm.plan, hm.rd, by show 0 ≤ w64 (c.replica + 1) ∧ w64 (c.replica + 1) ≤ 1000 + (k + 1); rw [wr]; omega, hm.tk⟩
     ·split
      ·split
       ·exact hd
       ·exact hb 3
      ·split
       ·exact hd
       ·split
        ·exact hb 0
        ·exact hm
end Go.Proofs.YtngjhkgcfabciaaGreat

