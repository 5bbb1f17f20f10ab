import Derived.Test.YtbdjcgjdmhgnmaaGreatKA11
import Derived.Test.YtbdjcgjdmhgnmaaGreatKA13
import Derived.Test.YtbdjcgjdmhgnmaaGreatKA14
import Derived.Test.YtbdjcgjdmhgnmaaGreatKA22
namespace Go.Proofs.YtbdjcgjdmhgnmaaGreat
open Go Go.RowKit
set_option linter.unusedSimpArgs false
set_option linter.unusedVariables false
theorem PlanOK.after {p : Prob} {l : List StepD} (h : PlanOK p l) {k : Nat} (hk : k < l.length) : afterP p ((mixesP p l).getD k nilM) (l.getD k nilS) = some ((mixesP p l).getD (k + 1) nilM) := by
 have hs := (h.step hk).2.2
 have e : (applyP p ((mixesP p l).getD k nilM) (l.getD k nilS)).2 = 0 := by rw [hs]
 have := (apply_after e).1
 rw [hs] at this
 exact this
theorem PlanOK.valid {p : Prob} {l : List StepD} (h : PlanOK p l) {k : Nat} (hk : k < l.length) : mixErr p ((mixesP p l).getD k nilM) = 0 := by
 have hs := (h.step hk).2.2
 have e : (applyP p ((mixesP p l).getD k nilM) (l.getD k nilS)).2 = 0 := by rw [hs]
 exact (apply_after e).2.1
theorem of_u8 (z : BitVec 8) : BitVec.ofInt 8 (IntKind.u8.wrap (z.toNat : Int)) = z := by
 have h1 : IntKind.u8.wrap (z.toNat : Int) = (z.toNat : Int) := by
  have := z.isLt
  simp only [IntKind.wrap, IntKind.bits, IntKind.signed]
  simp
  omega
 rw [h1]
 apply BitVec.eq_of_toNat_eq
 simp
theorem or_or {a b : Int} : bits BinOp.or IntKind.u8 (bits BinOp.or IntKind.u8 a b) b = bits BinOp.or IntKind.u8 a b := by
 show IntKind.u8.wrap (((BitVec.ofInt 8 (IntKind.u8.wrap (((BitVec.ofInt 8 a ||| BitVec.ofInt 8 b).toNat : Nat) : Int))) ||| BitVec.ofInt 8 b).toNat : Int) = IntKind.u8.wrap ((BitVec.ofInt 8 a ||| BitVec.ofInt 8 b).toNat : Int)
 rw [of_u8, BitVec.or_assoc, BitVec.or_self]
theorem mix_ext {a b : MixD} (h1 : a.base = b.base) (h2 : a.next = b.next) (h3 : a.held = b.held) : a = b := by
 cases a; cases b; simp only [MixD.mk.injEq] at *; exact ⟨h1, h2, h3⟩
theorem start_abort {p : Prob} {m x : MixD} {s : StepD} (hm : MixG p m) (hs : StepAt p s) (hk : s.kind = 1) (h : afterP p m s = some x) : ∃ y, afterP p x ⟨4, s.idx, 0⟩ = some y ∧ MixG p y ∧ afterP p y s = some x := by
 have hx := after_g hm hs h
 have hv := hs.ver hk
 have h0 := hs.nn
 have h1 := hs.svc (by omega)
 have hi : s.idx.toNat < m.next.length := by have := hm.inn.ln; omega
 rw [after1 hk] at h
 split at h
 ·cases h
 ·rename_i hc
  cases h
  have en : (startedM p m s).next.getD s.idx.toNat 0 = s.ver := by
   simp only [startedM]; rw [getDi_set, if_pos ⟨rfl, hi⟩]
  have e4 : afterP p (startedM p m s) ⟨4, s.idx, 0⟩ = some ⟨m.base, (startedM p m s).next.set s.idx.toNat (-1), (startedM p m s).held⟩ := by
   rw [after4 (by show ¬ (4 : Int) = 1; decide) (by show ¬ (4 : Int) = 2; decide) (by show ¬ (4 : Int) = 3; decide)]
   rw [if_neg (by show ¬ (startedM p m s).next.getD s.idx.toNat 0 < 0; rw [en]; omega)]
   rfl
  refine ⟨_, e4, after_g hx (abort_at hs (by omega)) e4, ?_⟩
  have en2 : ((startedM p m s).next.set s.idx.toNat (-1)).getD s.idx.toNat 0 = -1 := by
   rw [getDi_set, if_pos ⟨rfl, by simp only [startedM]; rw [set_len]; exact hi⟩]
  rw [after1 hk, if_neg (by
   show ¬ (0 ≤ ((startedM p m s).next.set s.idx.toNat (-1)).getD s.idx.toNat 0 ∨ s.ver = m.base.getD s.idx.toNat 0)
   rw [en2]
   rintro (a | a)
   ·omega
   ·exact hc (.inr a))]
  refine congrArg some (mix_ext rfl ?_ ?_)
  ·simp only [startedM, List.set_set]
  ·refine getD_ext (by simp [startedM]) fun j hj => ?_
   have hj' : j < m.held.length := by simpa [startedM] using hj
   have eh : (startedM p m s).held.getD j 0 = heldUp p s.idx s.ver (p.tabs.getD j nilT) (m.held.getD j 0) := by
    simp only [startedM]
    rw [List.getD_eq_getElem?_getD, List.getElem?_map, List.getElem?_range hj']; rfl
   have eh2 : (startedM p ⟨m.base, (startedM p m s).next.set s.idx.toNat (-1), (startedM p m s).held⟩ s).held.getD j 0 = heldUp p s.idx s.ver (p.tabs.getD j nilT) ((startedM p m s).held.getD j 0) := by
    have hl : j < (startedM p m s).held.length := by simpa [startedM] using hj'
    show (((List.range (startedM p m s).held.length).map fun k => heldUp p s.idx s.ver (p.tabs.getD k nilT) ((startedM p m s).held.getD k 0))).getD j 0 = _
    rw [List.getD_eq_getElem?_getD, List.getElem?_map, List.getElem?_range hl]; rfl
   rw [eh2, eh]
   unfold heldUp
   split
   ·exact or_or
   ·rfl
theorem PlanOK.abort {p : Prob} {l : List StepD} (h : PlanOK p l) {a : Int} (ha : 0 ≤ a ∧ a < l.length) (hk : (l.getD a.toNat nilS).kind = 1) : MixG p (abortedP p l a) ∧ afterP p (abortedP p l a) (l.getD a.toNat nilS) = some ((mixesP p l).getD (a + 1).toNat nilM) ∧ afterP p ((mixesP p l).getD (a + 1).toNat nilM) ⟨4, (l.getD a.toNat nilS).idx, 0⟩ = some (abortedP p l a) := by
 have hlt : a.toNat < l.length := by omega
 obtain ⟨y, h1, h2, h3⟩ := start_abort (h.g (k := a.toNat) (by omega)) (h.step hlt).1 hk (h.after hlt)
 have e : (a + 1).toNat = a.toNat + 1 := by omega
 have ea : abortedP p l a = y := by unfold abortedP abortM; rw [e, h1]; rfl
 rw [ea, e]
 exact ⟨h2, h3, h1⟩
structure CtlK (p : Prob) (c : CtlD) : Prop where
 plan : PlanOK p c.plan
 rng : 0 ≤ c.at_ ∧ c.at_ ≤ c.plan.length
 fin : c.phase = 6 ↔ c.at_ = c.plan.length
 ph0 : c.phase = 0 → c.mix = (mixesP p c.plan).getD c.at_.toNat nilM ∨ ((present c).kind = 1 ∧ c.mix = abortedP p c.plan c.at_)
 ph1 : c.phase = 1 → ((present c).kind = 1 ∧ c.mix = (mixesP p c.plan).getD (c.at_ + 1).toNat nilM) ∨ ((present c).kind = 2 ∧ c.mix = (mixesP p c.plan).getD c.at_.toNat nilM)
 ph2 : c.phase = 2 ∨ c.phase = 3 → (present c).kind = 1 ∧ c.mix = (mixesP p c.plan).getD (c.at_ + 1).toNat nilM
 ph4 : c.phase = 4 → (present c).kind = 3 ∧ c.mix = (mixesP p c.plan).getD c.at_.toNat nilM
 ph5 : c.phase = 5 → (present c).kind = 1 ∧ c.mix = abortedP p c.plan c.at_
 ph6 : c.phase = 6 → c.mix = (mixesP p c.plan).getD c.at_.toNat nilM
 phs : 0 ≤ c.phase ∧ c.phase ≤ 6
theorem CtlK.lt {p : Prob} {c : CtlD} (h : CtlK p c) (hp : ¬ c.phase = 6) : c.at_ < c.plan.length := by
 have h1 := h.rng
 have h2 : ¬ c.at_ = c.plan.length := fun e => hp (h.fin.2 e)
 omega
theorem CtlK.g {p : Prob} {c : CtlD} (h : CtlK p c) : MixG p c.mix := by
 have hr := h.rng
 have hp := h.plan
 by_cases h6 : c.phase = 6
 ·rw [h.ph6 h6]; exact hp.g (by omega)
 ·have hlt := h.lt h6
  have hps := h.phs
  have ab : (present c).kind = 1 → MixG p (abortedP p c.plan c.at_) := fun a => (hp.abort ⟨hr.1, hlt⟩ a).1
  have : c.phase = 0 ∨ c.phase = 1 ∨ c.phase = 2 ∨ c.phase = 3 ∨ c.phase = 4 ∨ c.phase = 5 := by omega
  rcases this with e | e | e | e | e | e
  ·rcases h.ph0 e with m | ⟨k, m⟩
   ·rw [m]; exact hp.g (by omega)
   ·rw [m]; exact ab k
  ·rcases h.ph1 e with ⟨k, m⟩ | ⟨k, m⟩
   ·rw [m]; exact hp.g (by omega)
   ·rw [m]; exact hp.g (by omega)
  ·rw [(h.ph2 (.inl e)).2]; exact hp.g (by omega)
  ·rw [(h.ph2 (.inr e)).2]; exact hp.g (by omega)
  ·rw [(h.ph4 e).2]; exact hp.g (by omega)
  ·have := h.ph5 e
   rw [this.2]; exact ab this.1
theorem CtlK.st {p : Prob} {c : CtlD} (h : CtlK p c) (hp : ¬ c.phase = 6) : StepAt p (present c) ∧ 1 ≤ (present c).kind ∧ (present c).kind ≤ 3 := by
 have := h.plan.step (k := c.at_.toNat) (by have := h.lt hp; have := h.rng; omega)
 exact ⟨this.1, this.2.1⟩
end Go.Proofs.YtbdjcgjdmhgnmaaGreat

namespace Go.Proofs.YtbdjcgjdmhgnmaaGreat
open Go Go.RowKit
set_option linter.unusedSimpArgs false
set_option linter.unusedVariables false
theorem w64_is {n : Int} (h : -9223372036854775808 ≤ n ∧ n ≤ 9223372036854775807) : w64 n = n := by
 unfold w64
 exact wrap_i64 ⟨by omega, by omega⟩
theorem CtlK.token {p : Prob} {c : CtlD} (h : CtlK p c) (t : Int) : CtlK p { c with token := t } := ⟨h.plan, h.rng, h.fin, h.ph0, h.ph1, h.ph2, h.ph4, h.ph5, h.ph6, h.phs⟩
theorem CtlK.replica {p : Prob} {c : CtlD} (h : CtlK p c) (r : Int) : CtlK p { c with replica := r } := ⟨h.plan, h.rng, h.fin, h.ph0, h.ph1, h.ph2, h.ph4, h.ph5, h.ph6, h.phs⟩
theorem CtlK.round {p : Prob} {c : CtlD} (h : CtlK p c) (r : Int) : CtlK p { c with round := r } := ⟨h.plan, h.rng, h.fin, h.ph0, h.ph1, h.ph2, h.ph4, h.ph5, h.ph6, h.phs⟩
theorem ctlK_mk {p : Prob} {c : CtlD} (hp : PlanOK p c.plan) (hr : 0 ≤ c.at_ ∧ c.at_ < c.plan.length) (hm : (c.phase = 1 ∧ (present c).kind = 1 ∧ c.mix = (mixesP p c.plan).getD (c.at_ + 1).toNat nilM) ∨ (c.phase = 1 ∧ (present c).kind = 2 ∧ c.mix = (mixesP p c.plan).getD c.at_.toNat nilM) ∨ (c.phase = 2 ∧ (present c).kind = 1 ∧ c.mix = (mixesP p c.plan).getD (c.at_ + 1).toNat nilM) ∨ (c.phase = 3 ∧ (present c).kind = 1 ∧ c.mix = (mixesP p c.plan).getD (c.at_ + 1).toNat nilM) ∨ (c.phase = 4 ∧ (present c).kind = 3 ∧ c.mix = (mixesP p c.plan).getD c.at_.toNat nilM) ∨ (c.phase = 5 ∧ (present c).kind = 1 ∧ c.mix = abortedP p c.plan c.at_)) : CtlK p c := by
 have h6 : ¬ c.at_ = c.plan.length := by omega
 rcases hm with ⟨e, k, m⟩ | ⟨e, k, m⟩ | ⟨e, k, m⟩ | ⟨e, k, m⟩ | ⟨e, k, m⟩ | ⟨e, k, m⟩
 ·exact ⟨hp, by omega, by omega, fun a => by omega, fun _ => .inl ⟨k, m⟩, fun a => by omega, fun a => by omega, fun a => by omega, fun a => by omega, by omega⟩
 ·exact ⟨hp, by omega, by omega, fun a => by omega, fun _ => .inr ⟨k, m⟩, fun a => by omega, fun a => by omega, fun a => by omega, fun a => by omega, by omega⟩
 ·exact ⟨hp, by omega, by omega, fun a => by omega, fun a => by omega, fun _ => ⟨k, m⟩, fun a => by omega, fun a => by omega, fun a => by omega, by omega⟩
 ·exact ⟨hp, by omega, by omega, fun a => by omega, fun a => by omega, fun _ => ⟨k, m⟩, fun a => by omega, fun a => by omega, fun a => by omega, by omega⟩
 ·exact ⟨hp, by omega, by omega, fun a => by omega, fun a => by omega, fun a => by omega, fun _ => ⟨k, m⟩, fun a => by omega, fun a => by omega, by omega⟩
 ·exact ⟨hp, by omega, by omega, fun a => by omega, fun a => by omega, fun a => by omega, fun a => by omega, fun _ => ⟨k, m⟩, fun a => by omega, by omega⟩
theorem CtlK.after1 {p : Prob} {c : CtlD} (h : CtlK p c) (h0 : c.phase = 0) (hk : (present c).kind = 1) : afterP p c.mix (present c) = some ((mixesP p c.plan).getD (c.at_ + 1).toNat nilM) := by
 have hlt := h.lt (by omega)
 have hr := h.rng
 have e : (c.at_ + 1).toNat = c.at_.toNat + 1 := by omega
 rcases h.ph0 h0 with m | ⟨_, m⟩
 ·rw [m, e]; exact h.plan.after (by omega)
 ·rw [m]; exact (h.plan.abort ⟨hr.1, hlt⟩ hk).2.1
theorem CtlK.mix0 {p : Prob} {c : CtlD} (h : CtlK p c) (h0 : c.phase = 0) (hk : ¬ (present c).kind = 1) : c.mix = (mixesP p c.plan).getD c.at_.toNat nilM := by
 rcases h.ph0 h0 with m | ⟨k, _⟩
 ·exact m
 ·exact absurd k hk
theorem CtlK.begin {p : Prob} {rs : List Int} {c : CtlD} (h : CtlK p c) (h0 : c.phase = 0) : CtlK p (beginC p rs c) := by
 have hlt := h.lt (by omega)
 have hr := h.rng
 have hs := h.st (by omega)
 have epr : present (beginC p rs c) = present c := rfl
 refine ctlK_mk h.plan ⟨hr.1, hlt⟩ ?_
 rw [epr]
 show ((if (present c).kind = 3 then (4 : Int) else 1) = 1 ∧ _ ∧ (if (present c).kind = 1 then afterM p c.mix (present c) else c.mix) = _) ∨ _
 by_cases k1 : (present c).kind = 1
 ·left
  refine ⟨by rw [if_neg (by omega)], k1, ?_⟩
  rw [if_pos k1]
  unfold afterM
  rw [h.after1 h0 k1]; rfl
 ·by_cases k2 : (present c).kind = 2
  ·right; left
   refine ⟨?_, k2, ?_⟩
   ·show (if (present c).kind = 3 then (4 : Int) else 1) = 1
    rw [if_neg (by omega)]
   ·show (if (present c).kind = 1 then afterM p c.mix (present c) else c.mix) = _
    rw [if_neg k1]; exact h.mix0 h0 k1
  ·have k3 : (present c).kind = 3 := by omega
   right; right; right; right; left
   refine ⟨?_, k3, ?_⟩
   ·show (if (present c).kind = 3 then (4 : Int) else 1) = 4
    rw [if_pos k3]
   ·show (if (present c).kind = 1 then afterM p c.mix (present c) else c.mix) = _
    rw [if_neg k1]; exact h.mix0 h0 k1
theorem CtlK.next_ {p : Prob} {c d : CtlD} (h : CtlK p c) (hd : (c.phase = 1 ∧ (present c).kind = 2) ∨ c.phase = 2 ∨ c.phase = 4 ∨ (c.phase = 1 ∧ (present c).kind = 1)) (e1 : d.plan = c.plan) (e2 : d.at_ = c.at_ + 1) (e3 : d.phase = if c.at_ + 1 = c.plan.length then 6 else 0) (e4 : d.mix = if ¬ (present c).kind = 1 then afterM p c.mix (present c) else c.mix) : CtlK p d := by
 have hlt := h.lt (by omega)
 have hr := h.rng
 have hm : d.mix = (mixesP p d.plan).getD d.at_.toNat nilM := by
  rw [e4, e1, e2]
  have e : (c.at_ + 1).toNat = c.at_.toNat + 1 := by omega
  have kp : (present c).kind = 1 → c.mix = (mixesP p c.plan).getD (c.at_ + 1).toNat nilM := fun k => by
   rcases hd with ⟨a, b⟩ | a | a | ⟨a, b⟩
   ·omega
   ·exact (h.ph2 (.inl a)).2
   ·have := (h.ph4 a).1; omega
   ·rcases h.ph1 a with ⟨_, m⟩ | ⟨k', _⟩
    ·exact m
    ·omega
  by_cases k1 : (present c).kind = 1
  ·rw [if_neg (fun a => a k1)]; exact kp k1
  ·rw [if_pos k1]
   have m : c.mix = (mixesP p c.plan).getD c.at_.toNat nilM := by
    rcases hd with ⟨a, b⟩ | a | a | ⟨a, b⟩
    ·rcases h.ph1 a with ⟨k', _⟩ | ⟨_, m⟩
     ·omega
     ·exact m
    ·exact absurd (h.ph2 (.inl a)).1 k1
    ·exact (h.ph4 a).2
    ·omega
   unfold afterM
   rw [m, e]
   have := h.plan.after (k := c.at_.toNat) (by omega)
   unfold present
   rw [this]; rfl
 refine ⟨by rw [e1]; exact h.plan, by rw [e1, e2]; omega, ?_, fun _ => .inl hm, fun a => ?_, fun a => ?_, fun a => ?_, fun a => ?_, fun _ => hm, ?_⟩
 ·rw [e3, e2, e1]; split <;> omega
 all_goals (rw [e3] at *; split at * <;> omega)
theorem CtlK.done {p : Prob} {c : CtlD} (h : CtlK p c) (hl : c.plan.length ≤ 1000000) (hd : (c.phase = 1 ∧ (present c).kind = 2) ∨ c.phase = 2 ∨ c.phase = 4) : CtlK p (doneC p c) := by
 have hlt := h.lt (by omega)
 have hr := h.rng
 have e : w64 (c.at_ + 1) = c.at_ + 1 := w64_is (by omega)
 exact h.next_ (d := doneC p c) (by omega) rfl e (by show (if w64 (c.at_ + 1) = _ then _ else _) = _; rw [e]) rfl
end Go.Proofs.YtbdjcgjdmhgnmaaGreat

namespace Go.Proofs.YtbdjcgjdmhgnmaaGreat
open Go Go.RowKit
set_option maxRecDepth 100000
set_option maxHeartbeats 8000000
set_option linter.unusedSimpArgs false
set_option linter.unusedVariables false
theorem wanted_fn (c : CtlD) (h : 0 ≤ c.at_ ∧ c.at_ < c.plan.length) (hi : 0 ≤ (c.plan.getD c.at_.toNat nilS).idx ∧ (c.plan.getD c.at_.toNat nilS).idx < c.mix.base.length ∧ (c.plan.getD c.at_.toNat nilS).idx < c.mix.next.length) : FnSound Tryz.prog 37 [.val true (ctlC c)] [] { vals := [(false, [.d (.v (.int .i64 (wantedP c)))])] } := by
 refine startW (tm := [(0, _)]) Tryz.func37 rfl Tryz.ntmps37 rfl rfl rfl rfl ?_
 repeat' (first
  | refine wA ?_
  | (refine wC ?_ ?_ <;> intro hc)
  | refine wB ?_ ?_
  | (with_reducible refine JL.block ?_)
  | ((with_reducible refine F_at ?_); refine eW (vs := [(_, _)]) Tryz.results37 ?_; (focus (repeat' (first | exact oA | refine oB ?_ | refine oC ?_ ?_ | fail))))
  | ((with_reducible refine FO_at ?_); refine eO (vs := [(_, _)]) Tryz.results37 ?_)
  | exact oM
  | fail)
 all_goals (unfold wantedP present; first | rw [if_pos hc] | rw [if_neg hc])
theorem CtlK.idx {p : Prob} {c : CtlD} (h : CtlK p c) (hp : ¬ c.phase = 6) (hk : ¬ (present c).kind = 3) : 0 ≤ (c.plan.getD c.at_.toNat nilS).idx ∧ (c.plan.getD c.at_.toNat nilS).idx < p.vs.length ∧ c.mix.base.length = p.vs.length ∧ c.mix.next.length = p.vs.length := by
 have h1 := (h.st hp).1
 exact ⟨h1.nn, h1.svc hk, h.g.inn.lb, h.g.inn.ln⟩
theorem CtlK.busy {p : Prob} {c : CtlD} (h : CtlK p c) (hp : c.phase = 1 ∨ c.phase = 2 ∨ c.phase = 3) : 0 ≤ (c.plan.getD c.at_.toNat nilS).idx ∧ (c.plan.getD c.at_.toNat nilS).idx < p.vs.length ∧ c.mix.base.length = p.vs.length ∧ c.mix.next.length = p.vs.length := by
 refine h.idx (by omega) ?_
 rcases hp with e | e | e
 ·rcases h.ph1 e with ⟨k, _⟩ | ⟨k, _⟩ <;> omega
 ·have := (h.ph2 (.inl e)).1; omega
 ·have := (h.ph2 (.inr e)).1; omega
theorem repeatP_len (c : CtlD) : (repeatP c).length ≤ 1 := by
 unfold repeatP; (repeat' split) <;> simp
theorem repeated_fn (p : Prob) (c : CtlD) (h : CtlK p c) (hl : c.plan.length ≤ 1000000) : FnSound Tryz.prog 87 [.val true (ctlC c)] [] { vals := [(false, [.d (.sl 10 (dActs (repeatP c)))])] } := by
 have hr := h.rng
 have hlt := h.lt
 have hb := h.busy
 refine startW (tm := [(0, _)]) Tryz.func87 rfl Tryz.ntmps87 rfl rfl rfl rfl ?_
 repeat' (first
  | ((with_reducible refine K_ca 37 ?_); refine zC (wanted_fn c (by omega) (by omega)) ?_)
  | refine wA ?_
  | (refine wC ?_ ?_ <;> intro hc)
  | refine wB ?_ ?_
  | (with_reducible refine JL.block ?_)
  | ((with_reducible refine F_at ?_); refine eW (vs := [(_, _)]) Tryz.results87 ?_; (focus (repeat' (first | exact oA | refine oB ?_ | refine oC ?_ ?_ | fail))))
  | ((with_reducible refine FO_at ?_); refine eO (vs := [(_, _)]) Tryz.results87 ?_)
  | exact oM
  | fail)
 all_goals ((unfold repeatP; repeat' split) <;> first | rfl | (exfalso; omega))
theorem entry_fn (c : CtlD) (k : Int) (hr : -1000000000 ≤ c.round ∧ c.round ≤ 1000000000) : FnSound Tryz.prog 89 [.val true (ctlC c), .val false [.d (.v (.int .i64 k))]] [] { vals := [(true, [.d (.sl 3 (dSteps c.plan)), .d (.v (.int .i64 c.at_)), .d (.v (.int .i64 c.phase)), .d (.v (.int .i64 c.replica)), .d (.v (.int .i64 (c.round + 1))), .d (.v (.int .i64 c.token)), .d (.sl 1 (dInts c.mix.base)), .d (.sl 1 (dInts c.mix.next)), .d (.sl 1 (dSets c.mix.held))]), (false, [.own (128, 400)])], bx := [((128, 400), .sl 76 10 (dActs [entA c k]))] } := by
 refine startO (tm := [(0, _), (1, _)]) [] Tryz.func89 rfl Tryz.ntmps89 rfl rfl rfl rfl ?_
 repeat' (first
  | refine wA ?_
  | (refine wC ?_ ?_ <;> intro hc)
  | refine wB ?_ ?_
  | (with_reducible refine JL.block ?_)
  | ((with_reducible refine F_at ?_); refine eW (vs := [(_, _), (_, _)]) Tryz.results89 ?_; (focus (repeat' (first | exact oA | refine oB ?_ | refine oC ?_ ?_ | fail))))
  | ((with_reducible refine FO_at ?_); refine eO (vs := [(_, _), (_, _)]) Tryz.results89 ?_)
  | exact oM
  | fail)
 all_goals kernel_rfl
theorem done_fn (p : Prob) (c : CtlD) (h : CtlK p c) (hl : c.plan.length ≤ 1000000) (hp : ¬ c.phase = 6) (hrd : -1000000000 ≤ c.round ∧ c.round ≤ 1000000000) : FnSound Tryz.prog 88 [.val true (probC p), .val true (ctlC c)] [] { vals := [(true, ctlC (doneC p c)), (false, [.d (.sl 10 (dActs [entA c 2]))])] } := by
 have hr := h.rng
 have hlt := h.lt hp
 have hst := h.st hp
 have w1 : w64 (c.at_ + 1) = c.at_ + 1 := w64_is (by omega)
 have w2 : w64 (c.round + 1) = c.round + 1 := w64_is (by omega)
 have e : doneC p c = { plan := c.plan, at_ := c.at_ + 1, phase := if c.at_ + 1 = c.plan.length then 6 else 0, replica := 0, round := c.round + 1, token := c.token, mix := if ¬ (present c).kind = 1 then afterM p c.mix (present c) else c.mix } := by unfold doneC; rw [w1, w2]
 rw [e]
 refine startW (tm := [(0, _), (1, _)]) Tryz.func88 rfl Tryz.ntmps88 rfl rfl rfl rfl ?_
 repeat' (first
  | ((with_reducible refine K_ca 89 ?_); refine zE (entry_fn c 2 hrd) ?_)
  | ((with_reducible refine K_ca 48 ?_); refine zC (after_fn p c.mix (c.plan.getD c.at_.toNat nilS) h.g.inn hst.1 ⟨hst.2.1, by have := hst.2.2; unfold present at this; omega⟩) ?_)
  | refine wA ?_
  | (refine wC ?_ ?_ <;> intro hc)
  | refine wB ?_ ?_
  | (with_reducible refine JL.block ?_)
  | ((with_reducible refine F_at ?_); refine eW (vs := [(_, _), (_, _)]) Tryz.results88 ?_; (focus (repeat' (first | exact oA | refine oB ?_ | refine oC ?_ ?_ | fail))))
  | ((with_reducible refine FO_at ?_); refine eO (vs := [(_, _), (_, _)]) Tryz.results88 ?_)
  | exact oM
  | fail)
 all_goals first
  | rfl
  | (rw [if_pos hc]; done)
  | (rw [if_neg hc]; done)
  | (dsimp only; rw [if_pos (show ¬ (present c).kind = 1 by unfold present; assumption)] <;> rfl)
  | (dsimp only; rw [if_neg (show ¬ ¬ (present c).kind = 1 by unfold present; grind)] <;> rfl)
  | trace_state
theorem tick0_fn (p : Prob) (rs : List Int) (c : CtlD) (h : CtlK p c) (hl : c.plan.length ≤ 1000000) (hp : ¬ c.phase = 0) : FnSound Tryz.prog 85 [.val true (probC p), .val false [.d (.sl 1 (dInts rs))], .val true (ctlC c)] [] { vals := [(true, ctlC (tickP p rs c).1), (false, [.d (.sl 10 (dActs (tickP p rs c).2))])] } := by
 have e : tickP p rs c = (c, repeatP c) := by unfold tickP; rw [if_pos hp]
 rw [e]
 refine startW (tm := [(0, _), (1, _), (2, _)]) Tryz.func85 rfl Tryz.ntmps85 rfl rfl rfl rfl ?_
 repeat' (first
  | ((with_reducible refine K_ca 87 ?_); refine zC (repeated_fn p c h hl) ?_)
  | refine wA ?_
  | (refine wC ?_ ?_ <;> intro hc)
  | refine wB ?_ ?_
  | (with_reducible refine JL.block ?_)
  | ((with_reducible refine F_at ?_); refine eW (vs := [(_, _), (_, _)]) Tryz.results85 ?_; (focus (repeat' (first | exact oA | refine oB ?_ | refine oC ?_ ?_ | fail))))
  | ((with_reducible refine FO_at ?_); refine eO (vs := [(_, _), (_, _)]) Tryz.results85 ?_)
  | exact oM
  | fail)
 all_goals first | rfl | exact absurd hc hp | trace_state
theorem tick_fn (p : Prob) (rs : List Int) (c : CtlD) (h : CtlK p c) (hs : setErr p rs = 0) (hl : c.plan.length ≤ 1000000) (hp : c.phase = 0) (hrd : -1000000000 ≤ c.round ∧ c.round ≤ 1000000000) : FnSound Tryz.prog 85 [.val true (probC p), .val false [.d (.sl 1 (dInts rs))], .val true (ctlC c)] [] { vals := [(true, ctlC (tickP p rs c).1), (false, [.d (.sl 10 (dActs (tickP p rs c).2))])] } := by
 have hso := setErr_ok hs
 have hvp := vp_all hso.1
 have hr := h.rng
 have hlt := h.lt (by omega)
 have hst := h.st (by omega)
 have hix := h.idx (by omega)
 have hrl := hso.2.1
 have w2 : w64 (c.round + 1) = c.round + 1 := w64_is (by omega)
 have e : tickP p rs c = (beginC p rs c, entA c 1 :: repeatP (beginC p rs c)) := by unfold tickP; rw [if_neg (by omega)]
 have hbk := h.begin (rs := rs) hp
 have eb : beginC p rs c = { plan := c.plan, at_ := c.at_, phase := if (c.plan.getD c.at_.toNat nilS).kind = 3 then 4 else 1, replica := if (c.plan.getD c.at_.toNat nilS).kind = 3 then c.replica else firstR rs (c.plan.getD c.at_.toNat nilS).idx, round := c.round + 1, token := c.token, mix := if (c.plan.getD c.at_.toNat nilS).kind = 1 then afterM p c.mix (c.plan.getD c.at_.toNat nilS) else c.mix } := by unfold beginC; rw [w2]; rfl
 rw [e]
 rw [eb] at hbk ⊢
 have hrf := repeated_fn p _ hbk hl
 have hra := repeatP_len (beginC p rs c)
 rw [eb] at hra
 by_cases k3 : (c.plan.getD c.at_.toNat nilS).kind = 3
 ·simp only [k3, if_true, show ¬ (3 : Int) = 1 by decide, if_false] at hrf hra ⊢
  refine startW (tm := [(0, _), (1, _), (2, _)]) Tryz.func85 rfl Tryz.ntmps85 rfl rfl rfl rfl ?_
  repeat' (first
   | ((with_reducible refine K_ca 87 ?_); refine zC (hrf) ?_)
   | ((with_reducible refine K_ca 89 ?_); refine zE (entry_fn c 1 hrd) ?_)
   | refine wA ?_
   | (refine wC ?_ ?_ <;> intro hc)
   | refine wB ?_ ?_
   | (with_reducible refine JL.block ?_)
   | ((with_reducible refine F_at ?_); refine eW (vs := [(_, _), (_, _)]) Tryz.results85 ?_; (focus (repeat' (first | exact oA | refine oB ?_ | refine oC ?_ ?_ | fail))))
   | ((with_reducible refine FO_at ?_); refine eO (vs := [(_, _), (_, _)]) Tryz.results85 ?_)
   | exact oM
   | fail)
  all_goals first | rfl | (exfalso; omega) | trace_state
 ·by_cases k1 : (c.plan.getD c.at_.toNat nilS).kind = 1
  ·simp only [k1, if_true, show ¬ (1 : Int) = 3 by decide, if_false] at hrf hra ⊢
   refine startW (tm := [(0, _), (1, _), (2, _)]) Tryz.func85 rfl Tryz.ntmps85 rfl rfl rfl rfl ?_
   repeat' (first
    | ((with_reducible refine K_ca 87 ?_); refine zC (hrf) ?_)
    | ((with_reducible refine K_ca 89 ?_); refine zE (entry_fn c 1 hrd) ?_)
    | ((with_reducible refine K_ca 47 ?_); refine zC (first_fn rs (c.plan.getD c.at_.toNat nilS).idx (by have := hix k3; omega) hso.2.2 (by omega)) ?_)
    | ((with_reducible refine K_ca 48 ?_); refine zC (after_fn p c.mix (c.plan.getD c.at_.toNat nilS) h.g.inn hst.1 ⟨hst.2.1, by have := hst.2.2; unfold present at this; omega⟩) ?_)
    | refine wA ?_
    | (refine wC ?_ ?_ <;> intro hc)
    | refine wB ?_ ?_
    | (with_reducible refine JL.block ?_)
    | ((with_reducible refine F_at ?_); refine eW (vs := [(_, _), (_, _)]) Tryz.results85 ?_; (focus (repeat' (first | exact oA | refine oB ?_ | refine oC ?_ ?_ | fail))))
    | ((with_reducible refine FO_at ?_); refine eO (vs := [(_, _), (_, _)]) Tryz.results85 ?_)
    | exact oM
    | fail)
   all_goals first | rfl | (exfalso; omega) | trace_state
  ·simp only [k1, k3, if_false] at hrf hra ⊢
   refine startW (tm := [(0, _), (1, _), (2, _)]) Tryz.func85 rfl Tryz.ntmps85 rfl rfl rfl rfl ?_
   repeat' (first
    | ((with_reducible refine K_ca 87 ?_); refine zC (hrf) ?_)
    | ((with_reducible refine K_ca 89 ?_); refine zE (entry_fn c 1 hrd) ?_)
    | ((with_reducible refine K_ca 47 ?_); refine zC (first_fn rs (c.plan.getD c.at_.toNat nilS).idx (by have := hix k3; omega) hso.2.2 (by omega)) ?_)
    | refine wA ?_
    | (refine wC ?_ ?_ <;> intro hc)
    | refine wB ?_ ?_
    | (with_reducible refine JL.block ?_)
    | ((with_reducible refine F_at ?_); refine eW (vs := [(_, _), (_, _)]) Tryz.results85 ?_; (focus (repeat' (first | exact oA | refine oB ?_ | refine oC ?_ ?_ | fail))))
    | ((with_reducible refine FO_at ?_); refine eO (vs := [(_, _), (_, _)]) Tryz.results85 ?_)
    | exact oM
    | fail)
   all_goals first | rfl | (exfalso; omega) | trace_state
theorem tickA_fn (p : Prob) (rs : List Int) (c : CtlD) (h : CtlK p c) (hs : setErr p rs = 0) (hl : c.plan.length ≤ 1000000) (hrd : -1000000000 ≤ c.round ∧ c.round ≤ 1000000000) : FnSound Tryz.prog 85 [.val true (probC p), .val false [.d (.sl 1 (dInts rs))], .val true (ctlC c)] [] { vals := [(true, ctlC (tickP p rs c).1), (false, [.d (.sl 10 (dActs (tickP p rs c).2))])] } := by
 by_cases hp : c.phase = 0
 ·exact tick_fn p rs c h hs hl hp hrd
 ·exact tick0_fn p rs c h hl hp
end Go.Proofs.YtbdjcgjdmhgnmaaGreat

namespace Go.Proofs.YtbdjcgjdmhgnmaaGreat
open Go Go.RowKit
set_option maxRecDepth 100000
set_option maxHeartbeats 8000000
set_option linter.unusedSimpArgs false
set_option linter.unusedVariables false
theorem next1_fn (p : Prob) (rs : List Int) (c : CtlD) (tk rd rp vr tb : Int) (pa : Bool) (h : CtlK p c) (hs : setErr p rs = 0) (hl : c.plan.length ≤ 1000000) (hrd : -1000000000 ≤ c.round ∧ c.round ≤ 1000000000) (hrp : -1000000000 ≤ c.replica ∧ c.replica ≤ 1000000000) : FnSound Tryz.prog 41 [.val true (probC p), .val false [.d (.sl 1 (dInts rs))], .val true (ctlC c), .val true [.d (.v (.int .i64 1)), .d (.v (.int .i64 tk)), .d (.v (.int .i64 rd)), .d (.v (.int .i64 rp)), .d (.v (.int .i64 vr)), .d (.v (.bool pa)), .d (.v (.int .i64 tb))]] [] { vals := [(true, ctlC (nextP p rs c ⟨1, tk, rd, rp, vr, pa, tb⟩).1), (false, [.d (.sl 10 (dActs (nextP p rs c ⟨1, tk, rd, rp, vr, pa, tb⟩).2))])] } := by
 have e : nextP p rs c ⟨1, tk, rd, rp, vr, pa, tb⟩ = if tk ≤ c.token then (c, []) else tickP p rs { c with token := tk } := by unfold nextP; simp
 rw [e]
 refine startW (tm := [(0, _), (1, _), (2, _), (3, _)]) Tryz.func41 rfl Tryz.ntmps41 rfl rfl rfl rfl ?_
 repeat' (first
  | ((with_reducible refine K_ca 85 ?_); refine zC (tickA_fn p rs { c with token := tk } (h.token tk) hs hl hrd) ?_)
  | refine wA ?_
  | (refine wC ?_ ?_ <;> intro hc)
  | refine wB ?_ ?_
  | (with_reducible refine JL.block ?_)
  | ((with_reducible refine F_at ?_); refine eW (vs := [(_, _), (_, _)]) Tryz.results41 ?_; (focus (repeat' (first | exact oA | refine oB ?_ | refine oC ?_ ?_ | fail))))
  | ((with_reducible refine FO_at ?_); refine eO (vs := [(_, _), (_, _)]) Tryz.results41 ?_)
  | exact oM
  | fail)
 all_goals (clear h hs hrp hrd; first | rfl | ((repeat' split) <;> first | rfl | (exfalso; omega) | (exfalso; grind)) | trace_state)
theorem next2_fn (p : Prob) (rs : List Int) (c : CtlD) (tk rd rp vr tb : Int) (pa : Bool) (h : CtlK p c) (hs : setErr p rs = 0) (hl : c.plan.length ≤ 1000000) (hrd : -1000000000 ≤ c.round ∧ c.round ≤ 1000000000) (hrp : -1000000000 ≤ c.replica ∧ c.replica ≤ 1000000000) : FnSound Tryz.prog 41 [.val true (probC p), .val false [.d (.sl 1 (dInts rs))], .val true (ctlC c), .val true [.d (.v (.int .i64 2)), .d (.v (.int .i64 tk)), .d (.v (.int .i64 rd)), .d (.v (.int .i64 rp)), .d (.v (.int .i64 vr)), .d (.v (.bool pa)), .d (.v (.int .i64 tb))]] [] { vals := [(true, ctlC (nextP p rs c ⟨2, tk, rd, rp, vr, pa, tb⟩).1), (false, [.d (.sl 10 (dActs (nextP p rs c ⟨2, tk, rd, rp, vr, pa, tb⟩).2))])] } := by
 have e : nextP p rs c ⟨2, tk, rd, rp, vr, pa, tb⟩ = if c.token = 0 then (c, []) else ({ c with token := 0 }, []) := by unfold nextP; simp
 rw [e]
 refine startW (tm := [(0, _), (1, _), (2, _), (3, _)]) Tryz.func41 rfl Tryz.ntmps41 rfl rfl rfl rfl ?_
 repeat' (first
  | refine wA ?_
  | (refine wC ?_ ?_ <;> intro hc)
  | refine wB ?_ ?_
  | (with_reducible refine JL.block ?_)
  | ((with_reducible refine F_at ?_); refine eW (vs := [(_, _), (_, _)]) Tryz.results41 ?_; (focus (repeat' (first | exact oA | refine oB ?_ | refine oC ?_ ?_ | fail))))
  | ((with_reducible refine FO_at ?_); refine eO (vs := [(_, _), (_, _)]) Tryz.results41 ?_)
  | exact oM
  | fail)
 all_goals (clear h hs hrp hrd; first | rfl | ((repeat' split) <;> first | rfl | (exfalso; omega) | (exfalso; grind)) | trace_state)
theorem next3_fn (p : Prob) (rs : List Int) (c : CtlD) (tk rd rp vr tb : Int) (pa : Bool) (h : CtlK p c) (hs : setErr p rs = 0) (hl : c.plan.length ≤ 1000000) (hrd : -1000000000 ≤ c.round ∧ c.round ≤ 1000000000) (hrp : -1000000000 ≤ c.replica ∧ c.replica ≤ 1000000000) : FnSound Tryz.prog 41 [.val true (probC p), .val false [.d (.sl 1 (dInts rs))], .val true (ctlC c), .val true [.d (.v (.int .i64 3)), .d (.v (.int .i64 tk)), .d (.v (.int .i64 rd)), .d (.v (.int .i64 rp)), .d (.v (.int .i64 vr)), .d (.v (.bool pa)), .d (.v (.int .i64 tb))]] [] { vals := [(true, ctlC (nextP p rs c ⟨3, tk, rd, rp, vr, pa, tb⟩).1), (false, [.d (.sl 10 (dActs (nextP p rs c ⟨3, tk, rd, rp, vr, pa, tb⟩).2))])] } := by
 have e : nextP p rs c ⟨3, tk, rd, rp, vr, pa, tb⟩ = if c.token = 0 then (c, []) else tickP p rs c := by unfold nextP; simp
 rw [e]
 refine startW (tm := [(0, _), (1, _), (2, _), (3, _)]) Tryz.func41 rfl Tryz.ntmps41 rfl rfl rfl rfl ?_
 repeat' (first
  | ((with_reducible refine K_ca 85 ?_); refine zC (tickA_fn p rs c h hs hl hrd) ?_)
  | refine wA ?_
  | (refine wC ?_ ?_ <;> intro hc)
  | refine wB ?_ ?_
  | (with_reducible refine JL.block ?_)
  | ((with_reducible refine F_at ?_); refine eW (vs := [(_, _), (_, _)]) Tryz.results41 ?_; (focus (repeat' (first | exact oA | refine oB ?_ | refine oC ?_ ?_ | fail))))
  | ((with_reducible refine FO_at ?_); refine eO (vs := [(_, _), (_, _)]) Tryz.results41 ?_)
  | exact oM
  | fail)
 all_goals (clear h hs hrp hrd; first | rfl | ((repeat' split) <;> first | rfl | (exfalso; omega) | (exfalso; grind)) | trace_state)
theorem next5_fn (p : Prob) (rs : List Int) (c : CtlD) (tk rd rp vr tb : Int) (pa : Bool) (h : CtlK p c) (hs : setErr p rs = 0) (hl : c.plan.length ≤ 1000000) (hrd : -1000000000 ≤ c.round ∧ c.round ≤ 1000000000) (hrp : -1000000000 ≤ c.replica ∧ c.replica ≤ 1000000000) : FnSound Tryz.prog 41 [.val true (probC p), .val false [.d (.sl 1 (dInts rs))], .val true (ctlC c), .val true [.d (.v (.int .i64 5)), .d (.v (.int .i64 tk)), .d (.v (.int .i64 rd)), .d (.v (.int .i64 rp)), .d (.v (.int .i64 vr)), .d (.v (.bool pa)), .d (.v (.int .i64 tb))]] [] { vals := [(true, ctlC (nextP p rs c ⟨5, tk, rd, rp, vr, pa, tb⟩).1), (false, [.d (.sl 10 (dActs (nextP p rs c ⟨5, tk, rd, rp, vr, pa, tb⟩).2))])] } := by
 have w2 : w64 (c.round + 1) = c.round + 1 := w64_is (by omega)
 have hK : c.phase = 2 → CtlK p ⟨c.plan, c.at_, 3, c.replica, c.round + 1, c.token, c.mix⟩ := fun a => ctlK_mk h.plan ⟨h.rng.1, h.lt (by omega)⟩ (.inr (.inr (.inr (.inl ⟨rfl, h.ph2 (.inl a)⟩))))
 have hra := repeatP_len ⟨c.plan, c.at_, 3, c.replica, c.round + 1, c.token, c.mix⟩
 have eb : bump c = ⟨c.plan, c.at_, c.phase, c.replica, c.round + 1, c.token, c.mix⟩ := by unfold bump; rw [w2]
 have e : nextP p rs c ⟨5, tk, rd, rp, vr, pa, tb⟩ = if c.token = 0 then (c, []) else if rd = c.round ∧ c.phase = 2 then (if pa = true then (doneC p c, [entA c 2]) else (⟨c.plan, c.at_, 3, c.replica, c.round + 1, c.token, c.mix⟩, entA c 3 :: repeatP ⟨c.plan, c.at_, 3, c.replica, c.round + 1, c.token, c.mix⟩)) else (c, []) := by unfold nextP; simp [eb]
 rw [e]
 refine startW (tm := [(0, _), (1, _), (2, _), (3, _)]) Tryz.func41 rfl Tryz.ntmps41 rfl rfl rfl rfl ?_
 repeat' (first
  | ((with_reducible refine K_ca 87 ?_); refine zC (repeated_fn p ⟨c.plan, c.at_, 3, c.replica, c.round + 1, c.token, c.mix⟩ (hK (by assumption)) hl) ?_)
  | ((with_reducible refine K_ca 88 ?_); refine zC (done_fn p c h hl (by omega) hrd) ?_)
  | ((with_reducible refine K_ca 89 ?_); refine zE (entry_fn c 3 hrd) ?_)
  | refine wA ?_
  | (refine wC ?_ ?_ <;> intro hc)
  | refine wB ?_ ?_
  | (with_reducible refine JL.block ?_)
  | ((with_reducible refine F_at ?_); refine eW (vs := [(_, _), (_, _)]) Tryz.results41 ?_; (focus (repeat' (first | exact oA | refine oB ?_ | refine oC ?_ ?_ | fail))))
  | ((with_reducible refine FO_at ?_); refine eO (vs := [(_, _), (_, _)]) Tryz.results41 ?_)
  | exact oM
  | fail)
 all_goals (clear h hs hrp hrd; first | rfl | ((repeat' split) <;> first | rfl | (exfalso; omega) | (exfalso; grind)) | trace_state)
theorem next6_fn (p : Prob) (rs : List Int) (c : CtlD) (tk rd rp vr tb : Int) (pa : Bool) (h : CtlK p c) (hs : setErr p rs = 0) (hl : c.plan.length ≤ 1000000) (hrd : -1000000000 ≤ c.round ∧ c.round ≤ 1000000000) (hrp : -1000000000 ≤ c.replica ∧ c.replica ≤ 1000000000) : FnSound Tryz.prog 41 [.val true (probC p), .val false [.d (.sl 1 (dInts rs))], .val true (ctlC c), .val true [.d (.v (.int .i64 6)), .d (.v (.int .i64 tk)), .d (.v (.int .i64 rd)), .d (.v (.int .i64 rp)), .d (.v (.int .i64 vr)), .d (.v (.bool pa)), .d (.v (.int .i64 tb))]] [] { vals := [(true, ctlC (nextP p rs c ⟨6, tk, rd, rp, vr, pa, tb⟩).1), (false, [.d (.sl 10 (dActs (nextP p rs c ⟨6, tk, rd, rp, vr, pa, tb⟩).2))])] } := by
 have hlt := h.lt
 have hr := h.rng
 have e : nextP p rs c ⟨6, tk, rd, rp, vr, pa, tb⟩ = if c.token = 0 then (c, []) else if rd = c.round ∧ c.phase = 4 ∧ tb = (c.plan.getD c.at_.toNat nilS).idx then (doneC p c, [entA c 2]) else (c, []) := by unfold nextP; simp [present]
 rw [e]
 refine startW (tm := [(0, _), (1, _), (2, _), (3, _)]) Tryz.func41 rfl Tryz.ntmps41 rfl rfl rfl rfl ?_
 repeat' (first
  | ((with_reducible refine K_ca 88 ?_); refine zC (done_fn p c h hl (by omega) hrd) ?_)
  | refine wA ?_
  | (refine wC ?_ ?_ <;> intro hc)
  | refine wB ?_ ?_
  | (with_reducible refine JL.block ?_)
  | ((with_reducible refine F_at ?_); refine eW (vs := [(_, _), (_, _)]) Tryz.results41 ?_; (focus (repeat' (first | exact oA | refine oB ?_ | refine oC ?_ ?_ | fail))))
  | ((with_reducible refine FO_at ?_); refine eO (vs := [(_, _), (_, _)]) Tryz.results41 ?_)
  | exact oM
  | fail)
 all_goals (clear h hs hrp hrd; first | rfl | ((repeat' split) <;> first | rfl | (exfalso; omega) | (exfalso; grind)) | trace_state)
theorem next7_fn (p : Prob) (rs : List Int) (c : CtlD) (tk rd rp vr tb : Int) (pa : Bool) (h : CtlK p c) (hs : setErr p rs = 0) (hl : c.plan.length ≤ 1000000) (hrd : -1000000000 ≤ c.round ∧ c.round ≤ 1000000000) (hrp : -1000000000 ≤ c.replica ∧ c.replica ≤ 1000000000) : FnSound Tryz.prog 41 [.val true (probC p), .val false [.d (.sl 1 (dInts rs))], .val true (ctlC c), .val true [.d (.v (.int .i64 7)), .d (.v (.int .i64 tk)), .d (.v (.int .i64 rd)), .d (.v (.int .i64 rp)), .d (.v (.int .i64 vr)), .d (.v (.bool pa)), .d (.v (.int .i64 tb))]] [] { vals := [(true, ctlC (nextP p rs c ⟨7, tk, rd, rp, vr, pa, tb⟩).1), (false, [.d (.sl 10 (dActs (nextP p rs c ⟨7, tk, rd, rp, vr, pa, tb⟩).2))])] } := by
 have w2 : w64 (c.round + 1) = c.round + 1 := w64_is (by omega)
 have eb : bump c = ⟨c.plan, c.at_, c.phase, c.replica, c.round + 1, c.token, c.mix⟩ := by unfold bump; rw [w2]
 have e : nextP p rs c ⟨7, tk, rd, rp, vr, pa, tb⟩ = if c.token = 0 then (c, []) else if c.phase = 5 then (⟨c.plan, c.at_, 0, c.replica, c.round + 1, c.token, c.mix⟩, [entA c 4]) else (c, []) := by unfold nextP; simp [eb]
 rw [e]
 refine startW (tm := [(0, _), (1, _), (2, _), (3, _)]) Tryz.func41 rfl Tryz.ntmps41 rfl rfl rfl rfl ?_
 repeat' (first
  | ((with_reducible refine K_ca 89 ?_); refine zE (entry_fn c 4 hrd) ?_)
  | refine wA ?_
  | (refine wC ?_ ?_ <;> intro hc)
  | refine wB ?_ ?_
  | (with_reducible refine JL.block ?_)
  | ((with_reducible refine F_at ?_); refine eW (vs := [(_, _), (_, _)]) Tryz.results41 ?_; (focus (repeat' (first | exact oA | refine oB ?_ | refine oC ?_ ?_ | fail))))
  | ((with_reducible refine FO_at ?_); refine eO (vs := [(_, _), (_, _)]) Tryz.results41 ?_)
  | exact oM
  | fail)
 all_goals (clear h hs hrp hrd; first | rfl | ((repeat' split) <;> first | rfl | (exfalso; omega) | (exfalso; grind)) | trace_state)
end Go.Proofs.YtbdjcgjdmhgnmaaGreat

namespace Go.Proofs.YtbdjcgjdmhgnmaaGreat
open Go Go.RowKit
set_option maxRecDepth 100000
set_option maxHeartbeats 8000000
set_option linter.unusedSimpArgs false
set_option linter.unusedVariables false
theorem next4_fn (p : Prob) (rs : List Int) (c : CtlD) (tk rd rp vr tb : Int) (pa : Bool) (h : CtlK p c) (hs : setErr p rs = 0) (hl : c.plan.length ≤ 1000000) (hrd : -1000000000 ≤ c.round ∧ c.round ≤ 1000000000) (hrp : -1000000000 ≤ c.replica ∧ c.replica ≤ 1000000000) : FnSound Tryz.prog 41 [.val true (probC p), .val false [.d (.sl 1 (dInts rs))], .val true (ctlC c), .val true [.d (.v (.int .i64 4)), .d (.v (.int .i64 tk)), .d (.v (.int .i64 rd)), .d (.v (.int .i64 rp)), .d (.v (.int .i64 vr)), .d (.v (.bool pa)), .d (.v (.int .i64 tb))]] [] { vals := [(true, ctlC (nextP p rs c ⟨4, tk, rd, rp, vr, pa, tb⟩).1), (false, [.d (.sl 10 (dActs (nextP p rs c ⟨4, tk, rd, rp, vr, pa, tb⟩).2))])] } := by
  have e : nextP p rs c ⟨4, tk, rd, rp, vr, pa, tb⟩ = if c.token = 0 then (c, []) else if rd = c.round ∧ (c.phase = 1 ∨ c.phase = 3) then (if ¬ rp = c.replica ∨ ¬ vr = wantedP c then (c, [])
      else if c.phase = 3 then (⟨c.plan, c.at_, 5, 0, c.round, c.token, abortedP p c.plan c.at_⟩, [])
      else if (c.plan.getD c.at_.toNat nilS).kind = 1 then (⟨c.plan, c.at_, 2, c.replica, c.round, c.token, c.mix⟩, repeatP ⟨c.plan, c.at_, 2, c.replica, c.round, c.token, c.mix⟩)
      else if c.replica = firstR rs (c.plan.getD c.at_.toNat nilS).idx + rs.getD (c.plan.getD c.at_.toNat nilS).idx.toNat 0 - 1 then (doneC p c, [entA c 2])
      else (⟨c.plan, c.at_, c.phase, c.replica + 1, c.round, c.token, c.mix⟩, repeatP ⟨c.plan, c.at_, c.phase, c.replica + 1, c.round, c.token, c.mix⟩)) else (c, []) := by
    have w3 : w64 (c.replica + 1) = c.replica + 1 := w64_is (by omega)
    unfold nextP ackP
    simp only [show ¬ (4 : Int) = 1 by decide, show ¬ (4 : Int) = 2 by decide, show ¬ (4 : Int) = 3 by decide, show ¬ (4 : Int) = 5 by decide, show ¬ (4 : Int) = 6 by decide, show ¬ (4 : Int) = 7 by decide, if_false, false_and, true_and, present, w3]
  rw [e]
  have hlt := h.lt
  have hr := h.rng
  have hso := setErr_ok hs
  have hvp := vp_all hso.1
  have hrl := hso.2.1
  have hbu := h.busy
  have hfr := fun hi => first_fn rs (c.plan.getD c.at_.toNat nilS).idx hi hso.2.2 (by omega)
  have hrr := hso.2.2 (c.plan.getD c.at_.toNat nilS).idx.toNat
  have hsl := sum_le hso.2.2 (c.plan.getD c.at_.toNat nilS).idx.toNat
  have efr : firstR rs (c.plan.getD c.at_.toNat nilS).idx = (rs.take (c.plan.getD c.at_.toNat nilS).idx.toNat).sum := rfl
  have w3 : w64 (c.replica + 1) = c.replica + 1 := w64_is (by omega)
  have hb1 : c.phase = 1 → 0 ≤ c.at_ ∧ c.at_ < c.plan.length ∧ 0 ≤ (c.plan.getD c.at_.toNat nilS).idx ∧ (c.plan.getD c.at_.toNat nilS).idx < rs.length ∧ (c.plan.getD c.at_.toNat nilS).idx < c.mix.base.length ∧ (c.plan.getD c.at_.toNat nilS).idx < c.mix.next.length := fun a => by
    have := hbu (.inl a); have := hlt (by omega); omega
  have hb3 : c.phase = 3 → 0 ≤ c.at_ ∧ c.at_ < c.plan.length ∧ 0 ≤ (c.plan.getD c.at_.toNat nilS).idx ∧ (c.plan.getD c.at_.toNat nilS).idx < rs.length ∧ (c.plan.getD c.at_.toNat nilS).idx < c.mix.base.length ∧ (c.plan.getD c.at_.toNat nilS).idx < c.mix.next.length := fun a => by
    have := hbu (.inr (.inr a)); have := hlt (by omega); omega
  have hK2 : c.phase = 1 → (c.plan.getD c.at_.toNat nilS).kind = 1 → CtlK p ⟨c.plan, c.at_, 2, c.replica, c.round, c.token, c.mix⟩ := fun a k => ctlK_mk h.plan ⟨hr.1, hlt (by omega)⟩ (.inr (.inr (.inl ⟨rfl, k, by
    rcases h.ph1 a with ⟨_, m⟩ | ⟨k', _⟩
    · exact m
    · unfold present at k'; omega⟩)))
  have hk1 := h.ph1
  have hk3 : c.phase = 3 → (c.plan.getD c.at_.toNat nilS).kind = 1 := fun a => (h.ph2 (.inr a)).1
  have hrs6 : rs.length ≤ 6 := by omega
  clear hbu hvp e
  by_cases p1 : c.phase = 1
  · have hb := hb1 p1
    have n3 : ¬ c.phase = 3 := by omega
    have hK2 := hK2 p1
    clear hb1 hb3 hk1 hk3
    refine startW (tm := [(0, _), (1, _), (2, _), (3, _)]) Tryz.func41 rfl Tryz.ntmps41 rfl rfl rfl rfl ?_
    repeat' (first
      | ((with_reducible refine K_ca 37 ?_); refine zC (wanted_fn c ⟨hb.1, hb.2.1⟩ ⟨hb.2.2.1, hb.2.2.2.2⟩) ?_)
      | ((with_reducible refine K_ca 87 ?_); (first
      | refine zC (repeated_fn p ⟨c.plan, c.at_, 2, c.replica, c.round, c.token, c.mix⟩ (hK2 (by assumption)) hl) ?_
      | refine zC (repeated_fn p ⟨c.plan, c.at_, c.phase, c.replica + 1, c.round, c.token, c.mix⟩ (h.replica _) hl) ?_))
      | ((with_reducible refine K_ca 47 ?_); refine zC (hfr (by omega)) ?_)
      | ((with_reducible refine K_ca 88 ?_); refine zC (done_fn p c h hl (by omega) hrd) ?_)
      | refine wA ?_
      | (refine wC ?_ ?_ <;> intro hc)
      | refine wB ?_ ?_
      | (with_reducible refine JL.block ?_)
      | ((with_reducible refine F_at ?_); refine eW (vs := [(_, _), (_, _)]) Tryz.results41 ?_; (focus (repeat' (first | exact oA | refine oB ?_ | refine oC ?_ ?_ | fail))))
      | ((with_reducible refine FO_at ?_); refine eO (vs := [(_, _), (_, _)]) Tryz.results41 ?_)
      | exact oM
      | fail)
    all_goals (clear h hs hrp hrd hr hlt hso hfr hrr hsl; first | rfl | ((repeat' split) <;> first | rfl | (exfalso; omega) | (exfalso; grind)) | trace_state)
  · by_cases p3 : c.phase = 3
    · have hb := hb3 p3
      have hk3 := hk3 p3
      clear hb1 hb3 hk1 hK2
      refine startW (tm := [(0, _), (1, _), (2, _), (3, _)]) Tryz.func41 rfl Tryz.ntmps41 rfl rfl rfl rfl ?_
      repeat' (first
        | ((with_reducible refine K_ca 37 ?_); refine zC (wanted_fn c ⟨hb.1, hb.2.1⟩ ⟨hb.2.2.1, hb.2.2.2.2⟩) ?_)
        | ((with_reducible refine K_ca 86 ?_); refine zC (aborted_fn p c.plan c.at_ h.plan hl ⟨hb.1, hb.2.1⟩ hk3) ?_)
        | refine wA ?_
        | (refine wC ?_ ?_ <;> intro hc)
        | refine wB ?_ ?_
        | (with_reducible refine JL.block ?_)
        | ((with_reducible refine F_at ?_); refine eW (vs := [(_, _), (_, _)]) Tryz.results41 ?_; (focus (repeat' (first | exact oA | refine oB ?_ | refine oC ?_ ?_ | fail))))
        | ((with_reducible refine FO_at ?_); refine eO (vs := [(_, _), (_, _)]) Tryz.results41 ?_)
        | exact oM
        | fail)
      all_goals (clear h hs hrp hrd hr hlt hso hfr hrr hsl; first | rfl | ((repeat' split) <;> first | rfl | (exfalso; omega) | (exfalso; grind)) | trace_state)
    · refine startW (tm := [(0, _), (1, _), (2, _), (3, _)]) Tryz.func41 rfl Tryz.ntmps41 rfl rfl rfl rfl ?_
      repeat' (first
        | refine wA ?_
        | (refine wC ?_ ?_ <;> intro hc)
        | refine wB ?_ ?_
        | (with_reducible refine JL.block ?_)
        | ((with_reducible refine F_at ?_); refine eW (vs := [(_, _), (_, _)]) Tryz.results41 ?_; (focus (repeat' (first | exact oA | refine oB ?_ | refine oC ?_ ?_ | fail))))
        | ((with_reducible refine FO_at ?_); refine eO (vs := [(_, _), (_, _)]) Tryz.results41 ?_)
        | exact oM
        | fail)
      all_goals (clear h hs hrp hrd hr hlt hso hfr hrr hsl; first | rfl | ((repeat' split) <;> first | rfl | (exfalso; omega) | (exfalso; grind)) | trace_state)
end Go.Proofs.YtbdjcgjdmhgnmaaGreat

namespace Go.Proofs.YtbdjcgjdmhgnmaaGreat
open Go Go.RowKit
set_option linter.unusedSimpArgs false
set_option linter.unusedVariables false
def beginR (p : Prob) (rs : List Int) (c : CtlD) : CtlD :=
 if (present c).kind = 3 then { c with phase := 4 }
 else { c with phase := 1, replica := firstR rs (present c).idx, mix := if (present c).kind = 1 then afterM p c.mix (present c) else c.mix }
def doneR (p : Prob) (c : CtlD) : CtlD :=
 { plan := c.plan, at_ := w64 (c.at_ + 1), phase := if w64 (c.at_ + 1) = c.plan.length then 6 else 0, replica := 0, round := c.round, token := c.token, mix := if ¬ (present c).kind = 1 then afterM p c.mix (present c) else c.mix }
def oneP (p : Prob) (rs : List Int) (c : CtlD) (x : EntD) : Option CtlD :=
 if x.kind = 5 then some c
 else if ¬ x.idx = c.at_ then none
 else if x.kind = 1 ∧ c.phase = 0 then some (beginR p rs (bump c))
 else if x.kind = 2 ∧ (c.phase = 1 ∨ c.phase = 4) then some (doneR p (bump c))
 else if x.kind = 3 ∧ c.phase = 1 ∧ (present c).kind = 1 then some { bump c with phase := 3 }
 else if x.kind = 4 ∧ c.phase = 3 then some { bump c with phase := 0, replica := 0, mix := abortM p c.mix (present c).idx }
 else none
def replayL (p : Prob) (rs : List Int) : CtlD → List EntD → CtlD × Int
 | c, [] => (c, 0)
 | c, x :: r => match oneP p rs c x with
  | none => (nilCtl, 1)
  | some c' => replayL p rs c' r
def replayP (p : Prob) (rs : List Int) (l : List StepD) (es : List EntD) : CtlD × Int :=
 if ¬ (newP p rs l).2 = 0 then (nilCtl, (newP p rs l).2) else replayL p rs (newP p rs l).1 es
def longL (p : Prob) (rs : List Int) : CtlD → List EntD → Nat
 | _, [] => 0
 | c, x :: r => match oneP p rs c x with
  | none => 0
  | some c' => longL p rs c' r + 1
theorem replayL_take {p : Prob} {rs : List Int} : ∀ {es : List EntD} {c : CtlD} {n : Nat}, n ≤ es.length → ((replayL p rs c (es.take n)).2 = 0 ↔ n ≤ longL p rs c es)
 | [], c, n, h => by
  simp at h
  subst h
  simp [replayL]
 | x :: r, c, 0, _ => by simp [replayL]
 | x :: r, c, n + 1, h => by
  simp only [List.take_succ_cons, replayL, longL]
  cases ho : oneP p rs c x with
  | none => simp
  | some c' =>
   simp only
   rw [replayL_take (by simpa using h)]
   omega
theorem longL_le {p : Prob} {rs : List Int} : ∀ {es : List EntD} {c : CtlD}, longL p rs c es ≤ es.length
 | [], _ => by simp [longL]
 | x :: r, c => by
  unfold longL
  split
  ·simp
  ·rename_i c' _
   have := longL_le (p := p) (rs := rs) (es := r) (c := c')
   simp
   exact this
end Go.Proofs.YtbdjcgjdmhgnmaaGreat

